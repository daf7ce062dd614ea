/- Contract of state.Keep. -/
import Derived.Test.YtcbklolfibdffaaSt4
namespace Go.Proofs.Ytcbklolfibdffaa
open Go.RowKit
set_option maxRecDepth 100000
def keepI (S : Nat → Int) : Nat → Int := if unitB S = true then S else turnd S (uniV S)
def keepF (S : Nat → Int) : Nat → Int := clmF (keepI S)
def keepH (S : Nat → Int) : Bool := (if unitB S = true then false else uniH S) || clmH (keepI S)
structure KpR (c : Addr) (h : Bool) (g : Nat → Int) (w wr : World) : Prop where
  upd : Upd c h w wr
  blk : Blk wr w.heap.size 27 24 g
  res : Blk wr (w.heap.size + 1) 27 24 (fun _ => 0)
theorem KpR.upd' {c : Addr} {h h' : Bool} {g : Nat → Int} {w wr w' : World} (s : KpR c h g w wr) (hc : c.block < w.heap.size) (u : Upd c h' wr w') : KpR c h' g w w' :=
  ⟨s.upd.trans u, s.blk.upd u (by omega), s.res.upd u (by omega)⟩
theorem KpR.down {c : Addr} {h : Bool} {g : Nat → Int} {w wr w' : World} (s : KpR c h g w wr) (u : Below wr.heap.size wr w') : KpR c h g w w' :=
  ⟨s.upd.then u, s.blk.below u, s.res.below u⟩
theorem KpR.row {c : Addr} {h : Bool} {g : Nat → Int} {w wr : World} (s : KpR c h g w wr) (f : Nat → Int) : KpR c h f w (wr.setRow w.heap.size (arrv 24 f)) :=
  ⟨s.upd.then' (below_row (Below.refl _ _) (Nat.le_refl _) _), s.blk.setRow f, s.res.setRow_other _ (by omega)⟩
theorem KpR.drew {c : Addr} {h : Bool} {g : Nat → Int} {w wr : World} (s : KpR c h g w wr) : KpR c h g w wr.drew := ⟨s.upd.drew, s.blk, s.res⟩
set_option maxHeartbeats 2000000 in
theorem keep_any (c : Addr) (h : Bool) (S : Nat → Int) (w : World) (hc : w.cell? c = some (.bool h)) (hf : w.frozen? c = false) :
    Calls Try.prog 8 #[.pointer (some c), .agg (arrv 24 S)] w fun e w' => e = .returned (.agg (arrv 24 (keepF S))) ∧ Upd c (h || keepH S) w w' := by
  have hcb := World.block_lt_of_cell? w c hc
  have S0 : Hid (KpR c h S w ((w.alloc (.cells (arrv 24 S) 27)).alloc (.cells #[.int .i64 0, .int .i64 0, .int .i64 0, .int .i64 0, .int .i64 0, .int .i64 0, .int .i64 0, .int .i64 0, .int .i64 0, .int .i64 0, .int .i64 0, .int .i64 0, .int .i64 0, .int .i64 0, .int .i64 0, .int .i64 0, .int .i64 0, .int .i64 0, .int .i64 0, .int .i64 0, .int .i64 0, .int .i64 0, .int .i64 0, .int .i64 0] 27))) := Lib.hid
    ⟨Upd.then (Upd.refl hc) (by (repeat (first | with_reducible exact Below.refl _ _ | with_reducible apply Below.drew | (with_reducible refine below_drewN ?_ _) | (with_reducible refine Below.alloc ?_ (by (try simp) <;> omega) _) | (with_reducible refine Below.setCell ?_ (by (try simp) <;> omega) _)))), (Blk.new w _ 24 _).alloc _, by rw [zvec24]; exact Blk.new1 w _ _ 24 _⟩
  have HC := Lib.hid hc
  have HF := Lib.hid hf
  clear hc hf
  go_enter Try.func8, Try.ntmps8
  go_upto_region 1 with fail
  generalize (w.alloc (.cells (arrv 24 S) 27)).alloc (.cells #[.int .i64 0, .int .i64 0, .int .i64 0, .int .i64 0, .int .i64 0, .int .i64 0, .int .i64 0, .int .i64 0, .int .i64 0, .int .i64 0, .int .i64 0, .int .i64 0, .int .i64 0, .int .i64 0, .int .i64 0, .int .i64 0, .int .i64 0, .int .i64 0, .int .i64 0, .int .i64 0, .int .i64 0, .int .i64 0, .int .i64 0, .int .i64 0] 27) = W0 at *
  have P0 := S0.out.blk
  by_cases hu : unitB S = true
  · have E := Lib.hid (show keepF S = clmF S ∧ (h || keepH S) = (h || clmH S) by unfold keepF keepH keepI; rw [if_pos hu, if_pos hu, Bool.false_or]; exact ⟨rfl, rfl⟩)
    go_wp2_with (first | (refine wpList_load_row rfl 27 _ rfl (w.heap.size) rfl 27 _ (0, 0) _ (P0) Try.underlying27 rfl (ist.trans (by rw [arrv_size])) ?_) | (go_at_call 14; (refine (att_any S _).mono ?_); rintro e w1 ⟨rfl, hb1⟩; have S1 := Lib.hid (S0.out.down hb1); clear hb1) | (go_at_call 16; (refine (sunit_any S _).mono ?_); rintro e w2 ⟨rfl, hb2⟩; have S2 := Lib.hid (S1.out.down hb2); (rw [hu]); have P2 := S2.out.blk; have CL := Lib.hid (clamp24_any c h S w2 (S2.out.upd.cellc HC.out) ((S2.out.upd.frozen hcb).trans HF.out)); clear hb2) | (refine wpList_load_row rfl 27 _ rfl (w.heap.size) rfl 27 _ (0, 0) _ (P2) Try.underlying27 rfl (ist.trans (by rw [arrv_size])) ?_) | (go_at_call 19; (refine CL.out.mono ?_); rintro e w3 ⟨rfl, hu3⟩; have S3 := Lib.hid (S2.out.upd' hcb hu3); have R3 := S3.out.res; clear hu3) | (refine wpList_store_row rfl 27 _ _ rfl (w.heap.size + 1) _ rfl rfl 27 _ (R3) (ist.trans (by rw [arrv_size])) (by rw [arrv_size, arrv_size]) (oneCell_arrv _ _) ?_))
    refine bodyPost_ret (results_cell_row Try.results8 _ _ (w.heap.size + 1) 27 (arrv 24 (clmF S)) (0, 0) _ rfl (setRow_heap _ _ _ _ _ _ R3) Try.underlying27 rfl (ist.trans (by rw [arrv_size]))) rfl ⟨by rw [E.out.1], ?_⟩
    rw [E.out.2]
    exact S3.out.upd.then' (below_row (Below.refl _ _) (by omega) _)
  · have hu2 : unitB S = false := by simpa using hu
    obtain ⟨T, hT⟩ : ∃ T, turnd S (uniV S) = T := ⟨_, rfl⟩
    have E := Lib.hid (show keepF S = clmF T ∧ (h || keepH S) = (h || uniH S || clmH T) by unfold keepF keepH keepI; rw [if_neg hu, if_neg hu, hT, ← Bool.or_assoc]; exact ⟨rfl, rfl⟩)
    have HT := Lib.hid hT
    clear hT hu
    go_upto_region 2 with (first | (refine wpList_load_row rfl 27 _ rfl (w.heap.size) rfl 27 _ (0, 0) _ (P0) Try.underlying27 rfl (ist.trans (by rw [arrv_size])) ?_) | (go_at_call 14; (refine (att_any S _).mono ?_); rintro e w1 ⟨rfl, hb1⟩; have S1 := Lib.hid (S0.out.down hb1); clear hb1) | (go_at_call 16; (refine (sunit_any S _).mono ?_); rintro e w2 ⟨rfl, hb2⟩; have S2 := Lib.hid (S1.out.down hb2); (rw [hu2]); clear hb2))
    clear S0 S1 P0 hu2
    have P2 := S2.out.blk
    refine wp_region_M (fun w' => Blk w' w.heap.size 27 24 S) 6 (by kernel_rfl) ?_ (fun hHeld => ?_)
    · exact P2.drew
    refine wpAnyM_take 0 (v := ?_) rfl (by kernel_rfl) (fun _ _ _ h => h) (Or.inl ⟨by rfl, ?_⟩) (by assumption) ?_
    rotate_left
    · (intro wx hSw; refine Eq.trans (run_load_row 27 (.tmp 3) (by rfl) w.heap.size (by rfl) _ _ _ _ hSw Try.underlying27 rfl (ist.trans (by rw [arrv_size]))) ?_; with_reducible rfl)
    (try simp only [Act.put, List.setIfInBounds_toArray, List.set_cons_zero, List.set_cons_succ])
    refine wpAnyM_take 1 (v := ?_) rfl (by kernel_rfl) (fun _ _ _ h => h) (Or.inl ⟨by rfl, ?_⟩) (by assumption) ?_
    rotate_left
    · (intro wx hSw; (try dsimp only at hSw); go_simp; (try with_reducible rfl))
    (try simp only [Act.put, List.setIfInBounds_toArray, List.set_cons_zero, List.set_cons_succ])
    refine wpAnyM_take 2 (v := ?_) rfl (by kernel_rfl) (fun _ _ _ h => h) (Or.inl ⟨by rfl, ?_⟩) (by assumption) ?_
    rotate_left
    · (intro wx hSw; refine Eq.trans (run_load_row 27 (.tmp 3) (by rfl) w.heap.size (by rfl) _ _ _ _ hSw Try.underlying27 rfl (ist.trans (by rw [arrv_size]))) ?_; with_reducible rfl)
    (try simp only [Act.put, List.setIfInBounds_toArray, List.set_cons_zero, List.set_cons_succ])
    refine wpAnyM_oneS 3 rfl (by kernel_rfl) (fun K hK => ?_)
    go_simp
    (refine (att_any S _).mono ?_); rintro e w3 ⟨rfl, hb3⟩; have S3 := Lib.hid (S2.out.drew.down hb3); clear hb3
    (try dsimp only)
    (try simp only [Act.put, List.setIfInBounds_toArray, List.set_cons_zero, List.set_cons_succ])
    clear hHeld
    refine hK.out _ _ ?_ (fun hHeld => ?_)
    · exact S3.out.blk
    clear hK K
    (try simp only [Act.put, List.setIfInBounds_toArray, List.set_cons_zero, List.set_cons_succ])
    refine wpAnyM_oneS 4 rfl (by kernel_rfl) (fun K hK => ?_)
    go_simp
    (refine (qunit_any c h S w3 (S3.out.upd.cellc HC.out) ((S3.out.upd.frozen hcb).trans HF.out)).mono ?_); rintro e w4 ⟨rfl, hu4⟩; have S4 := Lib.hid (S3.out.upd' hcb hu4); clear hu4
    (try dsimp only)
    (try simp only [Act.put, List.setIfInBounds_toArray, List.set_cons_zero, List.set_cons_succ])
    clear hHeld
    refine hK.out _ _ ?_ (fun hHeld => ?_)
    · exact S4.out.blk
    clear hK K
    (try simp only [Act.put, List.setIfInBounds_toArray, List.set_cons_zero, List.set_cons_succ])
    refine wpAnyM_oneS 5 rfl (by kernel_rfl) (fun K hK => ?_)
    go_simp
    (refine (turned_any S (uniV S) _).mono ?_); rintro e w5 ⟨rfl, hb5⟩; have S5 := Lib.hid (S4.out.down hb5); clear hb5; (rw [HT.out]); have P5 := S5.out.blk
    (try dsimp only)
    (try simp only [Act.put, List.setIfInBounds_toArray, List.set_cons_zero, List.set_cons_succ])
    clear hHeld
    refine hK.out _ _ ?_ (fun hHeld => ?_)
    · exact S5.out.blk
    clear hK K
    (try simp only [Act.put, List.setIfInBounds_toArray, List.set_cons_zero, List.set_cons_succ])
    refine wpAnyM_one 6 rfl (by kernel_rfl) (fun K hK => ?_)
    go_simp; rw [if_pos (arrv_size _ _), run_storeCells_row _ P5]; go_simp
    refine hK.out _ _ (.inl (by kernel_rfl)) (fun _ => ?_)
    clear hK K
    (try simp only [Act.put, List.setIfInBounds_toArray, List.set_cons_zero, List.set_cons_succ])
    refine wpAnyM_done (by kernel_rfl) ?_ _
    have S6 := S5.out.row T
    generalize w5.setRow w.heap.size (arrv 24 T) = W6 at *
    have S6' := Lib.hid S6
    have P6 := S6.blk
    have CL := Lib.hid (clamp24_any c _ T W6 (S6.upd.cellc HC.out) ((S6.upd.frozen hcb).trans HF.out))
    clear S6 S2 S3 S4 S5 P2 P5
    go_wp2_with (first | (refine wpList_load_row rfl 27 _ rfl (w.heap.size) rfl 27 _ (0, 0) _ (P6) Try.underlying27 rfl (ist.trans (by rw [arrv_size])) ?_) | (go_at_call 19; (refine CL.out.mono ?_); rintro e w7 ⟨rfl, hu7⟩; have S7 := Lib.hid (S6'.out.upd' hcb hu7); have R7 := S7.out.res; clear hu7) | (refine wpList_store_row rfl 27 _ _ rfl (w.heap.size + 1) _ rfl rfl 27 _ (R7) (ist.trans (by rw [arrv_size])) (by rw [arrv_size, arrv_size]) (oneCell_arrv _ _) ?_))
    refine bodyPost_ret (results_cell_row Try.results8 _ _ (w.heap.size + 1) 27 (arrv 24 (clmF T)) (0, 0) _ rfl (setRow_heap _ _ _ _ _ _ R7) Try.underlying27 rfl (ist.trans (by rw [arrv_size]))) rfl ⟨by rw [E.out.1], ?_⟩
    rw [E.out.2]
    exact S7.out.upd.then' (below_row (Below.refl _ _) (by omega) _)
end Go.Proofs.Ytcbklolfibdffaa
