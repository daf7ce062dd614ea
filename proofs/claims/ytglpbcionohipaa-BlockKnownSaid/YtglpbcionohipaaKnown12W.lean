/- The walk of BlockKnown. -/
import Derived.Test.YtglpbcionohipaaAwk12
namespace Go.Proofs.Ytglpbcionohipaa
open Go.RowKit
set_option maxRecDepth 100000
theorem slc_m (wr : World) : Slc (wr.alloc (.cells #[.int .i64 (-1), .int .i64 24] 3)) (some ⟨wr.heap.size, 0, none⟩) 2 bkM := by
  intro i hi
  obtain rfl | rfl : i = 0 ∨ i = 1 := by omega
  · exact ⟨_, _, rfl, by simp [go_sem, bkM]⟩
  · exact ⟨_, _, rfl, by simp [go_sem, bkM]⟩
theorem Slc.drew {w : World} {p : Option Addr} {n : Nat} {L : Nat → Int} (h : Slc w p n L) : Slc w.drew p n L := h
set_option maxHeartbeats 4000000 in
theorem known12_walk (w : World) : Calls Try.prog 4 #[] w fun e w' => e = .returned (.bool true) ∧ Below w.heap.size w w' := by
  obtain ⟨k1, k2, k3, k4, k5, k6⟩ := bk_known
  obtain ⟨s1, s2⟩ := bk_same (q := fun _ => 0) (fun _ _ => rfl)
  have RH : (false || orB (rtB 24 (fun _ => 5)) 1 || stepH bk0 (rtF 24 1) (rtQ 24 (fun _ => 5) 1)) = false := by rw [k1, k2, k3, s2]; rfl
  have FH : (false || orB (fgB bk0 bkM) 2 || stepH bk0 (fgF bkM 2) (fgQ bk0 bkM 2)) = false := by rw [k4, k5, k6, s2]; rfl
  have GH : (false || stepH bk0 oneF (gwQ 0 (fun _ => 0) 0)) = false := by rw [show gwQ 0 (fun _ => 0) 0 = fun _ => 0 from rfl, s2]; rfl
  have RH := Lib.hid RH
  have FH := Lib.hid FH
  have GH := Lib.hid GH
  have E1 : covB (stepF bk0 (rtF 24 1) (rtQ 24 (fun _ => 5) 1)) bk0 = true := by rw [k1, k2]; exact covB_iff.2 s1
  have E2 : covB (stepF bk0 (fgF bkM 2) (fgQ bk0 bkM 2)) bk0 = true := by rw [k4, k5]; exact covB_iff.2 s1
  have E3 : covB (stepF bk0 oneF (gwQ 0 (fun _ => 0) 0)) bk0 = true := by rw [show gwQ 0 (fun _ => 0) 0 = fun _ => 0 from rfl]; exact covB_iff.2 s1
  have E1 := Lib.hid E1
  have E2 := Lib.hid E2
  have E3 := Lib.hid E3
  clear k1 k2 k3 k4 k5 k6 s1 s2
  go_enter Try.func4, Try.ntmps4
  go_upto_region 3 with (go_at_call 12; (refine (awake12_any _).mono ?_); rintro e wa ⟨rfl, hba⟩; have BA := Lib.hid hba; clear hba)
  have hz0 := BA.out.size
  obtain ⟨bc, hbc⟩ : ∃ x, wa.heap.size = x := ⟨_, rfl⟩
  obtain ⟨W0, hW0⟩ : ∃ x, (wa.alloc (.cells #[.bool false] 25)).alloc (.cells #[.int .i64 17592186044416, .int .i64 17592186044416] 2) = x := ⟨_, rfl⟩
  have F0 : Flg W0 bc false := by rw [← hW0, ← hbc]; exact (Flg.new wa false).alloc _
  have B0 : Below w.heap.size w W0 := by rw [← hW0]; exact (BA.out.alloc BA.out.size _).alloc (by simp; omega) _
  have L0 : Slc W0 (some ⟨bc + 1, 0, none⟩) 2 bkL := by
    rw [← hW0, ← hbc]
    have := slc_2 (wa.alloc (.cells #[.bool false] 25))
    simpa using this
  have N0 := Lib.hid (new_any _ false _ _ 2 bkL W0 F0.cell F0.free L0)
  have hwb : w.heap.size ≤ bc := by omega
  go_upto_region 5 with (first | (go_at_call 7; (refine N0.out.mono ?_); rintro e w1 ⟨rfl, hu1⟩; (rw [newH_bk] at hu1); replace hu1 : Upd ⟨bc, 0, none⟩ false W0 w1 := hu1; have F1 := Lib.hid (F0.hit hu1); have B1 := Lib.hid (own_upd B0 (by show w.heap.size ≤ bc; omega) hu1); have R1 := zblk w1; clear hu1) | (refine wpList_store_row rfl 29 _ _ rfl (w1.heap.size) _ rfl rfl 29 _ (R1) (icov.trans (by rw [arrv_size])) (by rw [arrv_size, arrv_size]) (oneCell_arrv _ _) ?_))
  obtain ⟨w2, hw2⟩ : ∃ x, x = ((w1.alloc (.cells Try.zeroCells29 29)).setRow w1.heap.size (arrv 300 (newF 2 bkL))) := ⟨_, rfl⟩
  rw [← hw2]
  obtain ⟨M2, MB⟩ := Blk.made zcov (newF 2 bkL) hw2
  obtain ⟨b2, hb2⟩ : ∃ x, w1.heap.size = x := ⟨_, rfl⟩
  have hb2c : bc < b2 := by rw [← hb2]; exact F1.out.lt
  have S2 : BkS bc b2 w w2 := ⟨Below.after B1.out MB, F1.out.below MB, by rw [← hb2]; exact M2⟩
  rw [hb2]
  have S2 := Lib.hid S2
  clear hw2 hb2 R1 M2 MB F1 B1 F0 B0 L0 N0 hW0 hz0 BA hbc
  refine wp_region_M (fun w' => Blk w' b2 29 300 bk0 ∧ Flg w' bc false) 28 (by kernel_rfl) ?_ (fun hHeld => ?_)
  · exact ⟨S2.out.pB, S2.out.fl⟩
  refine wpAnyM_take 0 (v := ?_) rfl (by kernel_rfl) (fun _ _ _ h => h) (Or.inl ⟨by rfl, ?_⟩) (by assumption) ?_
  rotate_left
  · (intro wx hSw; (try dsimp only at hSw); go_simp; (try with_reducible rfl))
  (try simp only [Act.put, List.setIfInBounds_toArray, List.set_cons_zero, List.set_cons_succ])
  refine wpAnyM_take 1 (v := ?_) rfl (by kernel_rfl) (fun _ _ _ h => h) (Or.inl ⟨by rfl, ?_⟩) (by assumption) ?_
  rotate_left
  · (intro wx hSw; refine Eq.trans (run_load_row 29 (.tmp 2) (by rfl) (b2) (by rfl) _ _ _ _ (hSw.1) Try.underlying29 rfl (icov.trans (by rw [arrv_size]))) ?_; with_reducible rfl)
  (try simp only [Act.put, List.setIfInBounds_toArray, List.set_cons_zero, List.set_cons_succ])
  refine wpAnyM_take 4 (v := ?_) rfl (by kernel_rfl) (fun _ _ _ h => h) (Or.inl ⟨by rfl, ?_⟩) (by assumption) ?_
  rotate_left
  · (intro wx hSw; refine Eq.trans (run_load_row 29 (.tmp 2) (by rfl) (b2) (by rfl) _ _ _ _ (hSw.1) Try.underlying29 rfl (icov.trans (by rw [arrv_size]))) ?_; with_reducible rfl)
  (try simp only [Act.put, List.setIfInBounds_toArray, List.set_cons_zero, List.set_cons_succ])
  refine wpAnyM_oneS 2 rfl (by kernel_rfl) (fun K hK => ?_)
  go_simp
  clear hHeld
  refine hK.out _ _ ?_ (fun hHeld => ?_)
  · exact ⟨S2.out.pB.alloc _, S2.out.fl.alloc _⟩
  clear hK K
  (try simp only [Act.put, List.setIfInBounds_toArray, List.set_cons_zero, List.set_cons_succ])
  refine wpAnyM_oneS 3 rfl (by kernel_rfl) (fun K hK => ?_)
  go_simp
  have S3 : BkS bc b2 w (w2.alloc (.cells #[.int .i64 5] 2)).drew := (S2.out.alloc _).drew; (refine (reset_any ⟨bc, 0, none⟩ false bk0 24 _ 1 1 (fun _ => 5) (w2.alloc (.cells #[.int .i64 5] 2)).drew S3.fl.cell S3.fl.free (slc_1 w2 5).drew (by omega) (by omega)).mono ?_); (rw [RH.out]); rintro e w4 ⟨rfl, hu4⟩; have S4 := Lib.hid (S3.upd hwb hb2c hu4); clear hu4 S3
  (try dsimp only)
  (try simp only [Act.put, List.setIfInBounds_toArray, List.set_cons_zero, List.set_cons_succ])
  clear hHeld
  refine hK.out _ _ ?_ (fun hHeld => ?_)
  · exact ⟨S4.out.pB, S4.out.fl⟩
  clear hK K
  (try simp only [Act.put, List.setIfInBounds_toArray, List.set_cons_zero, List.set_cons_succ])
  refine wpAnyM_take 5 (v := ?_) rfl (by kernel_rfl) (fun _ _ _ h => h) (Or.inl ⟨by rfl, ?_⟩) (by assumption) ?_
  rotate_left
  · (intro wx hSw; refine Eq.trans (run_op_eqlCov (.tmp 13) (.tmp 14) (by rfl) (by rfl) (by rfl) E1.out) ?_; with_reducible rfl)
  (try simp only [Act.put, List.setIfInBounds_toArray, List.set_cons_zero, List.set_cons_succ])
  refine wpAnyM_take 6 (v := ?_) rfl (by kernel_rfl) (fun _ _ _ h => h) (Or.inl ⟨by rfl, ?_⟩) (by assumption) ?_
  rotate_left
  · (intro wx hSw; (try dsimp only at hSw); go_simp; (try with_reducible rfl))
  (try simp only [Act.put, List.setIfInBounds_toArray, List.set_cons_zero, List.set_cons_succ])
  first | (refine wpAnyM_take 7 (v := ?_) rfl (by kernel_rfl) (fun _ _ _ h => h) (Or.inl ⟨by rfl, ?_⟩) (by assumption) ?_; rotate_left; focus ((intro wx hSw; (try dsimp only at hSw); go_simp; (try with_reducible rfl)))) | (refine wpAnyM_take 7 rfl (by kernel_rfl) (fun _ _ _ h => h) (Or.inr ⟨by rfl, rfl⟩) (by assumption) ?_)
  (try simp only [Act.put, List.setIfInBounds_toArray, List.set_cons_zero, List.set_cons_succ])
  first | (refine wpAnyM_take 8 (v := ?_) rfl (by kernel_rfl) (fun _ _ _ h => h) (Or.inl ⟨by rfl, ?_⟩) (by assumption) ?_; rotate_left; focus ((intro wx hSw; refine Eq.trans (run_load_row 29 (.tmp 2) (by rfl) (b2) (by rfl) _ _ _ _ (hSw.1) Try.underlying29 rfl (icov.trans (by rw [arrv_size]))) ?_; with_reducible rfl))) | (refine wpAnyM_take 8 rfl (by kernel_rfl) (fun _ _ _ h => h) (Or.inr ⟨by rfl, rfl⟩) (by assumption) ?_)
  (try simp only [Act.put, List.setIfInBounds_toArray, List.set_cons_zero, List.set_cons_succ])
  first | (refine wpAnyM_take 11 (v := ?_) rfl (by kernel_rfl) (fun _ _ _ h => h) (Or.inl ⟨by rfl, ?_⟩) (by assumption) ?_; rotate_left; focus ((intro wx hSw; refine Eq.trans (run_load_row 29 (.tmp 2) (by rfl) (b2) (by rfl) _ _ _ _ (hSw.1) Try.underlying29 rfl (icov.trans (by rw [arrv_size]))) ?_; with_reducible rfl))) | (refine wpAnyM_take 11 rfl (by kernel_rfl) (fun _ _ _ h => h) (Or.inr ⟨by rfl, rfl⟩) (by assumption) ?_)
  (try simp only [Act.put, List.setIfInBounds_toArray, List.set_cons_zero, List.set_cons_succ])
  refine wpAnyM_oneS 9 rfl (by kernel_rfl) (fun K hK => ?_)
  go_simp
  clear hHeld
  refine hK.out _ _ ?_ (fun hHeld => ?_)
  · exact ⟨S4.out.pB.alloc _, S4.out.fl.alloc _⟩
  clear hK K
  (try simp only [Act.put, List.setIfInBounds_toArray, List.set_cons_zero, List.set_cons_succ])
  refine wpAnyM_oneS 10 rfl (by kernel_rfl) (fun K hK => ?_)
  go_simp
  have S5 := S4.out.alloc (.cells #[.int .i64 (-1), .int .i64 24] 3); (refine (forget_any ⟨bc, 0, none⟩ false bk0 _ 2 2 bkM _ S5.fl.cell S5.fl.free (slc_m w4) (by omega)).mono ?_); (rw [FH.out]); rintro e w6 ⟨rfl, hu6⟩; have S6 := Lib.hid (S5.upd hwb hb2c hu6); clear hu6 S5
  (try dsimp only)
  (try simp only [Act.put, List.setIfInBounds_toArray, List.set_cons_zero, List.set_cons_succ])
  clear hHeld
  refine hK.out _ _ ?_ (fun hHeld => ?_)
  · exact ⟨S6.out.pB, S6.out.fl⟩
  clear hK K
  (try simp only [Act.put, List.setIfInBounds_toArray, List.set_cons_zero, List.set_cons_succ])
  first | (refine wpAnyM_take 12 (v := ?_) rfl (by kernel_rfl) (fun _ _ _ h => h) (Or.inl ⟨by rfl, ?_⟩) (by assumption) ?_; rotate_left; focus ((intro wx hSw; refine Eq.trans (run_op_eqlCov (.tmp 20) (.tmp 21) (by rfl) (by rfl) (by rfl) E2.out) ?_; with_reducible rfl))) | (refine wpAnyM_take 12 rfl (by kernel_rfl) (fun _ _ _ h => h) (Or.inr ⟨by rfl, rfl⟩) (by assumption) ?_)
  (try simp only [Act.put, List.setIfInBounds_toArray, List.set_cons_zero, List.set_cons_succ])
  refine wpAnyM_take 13 (v := ?_) rfl (by kernel_rfl) (fun _ _ _ h => h) (Or.inl ⟨by rfl, ?_⟩) (by assumption) ?_
  rotate_left
  · (intro wx hSw; (try dsimp only at hSw); go_simp; (try with_reducible rfl))
  (try simp only [Act.put, List.setIfInBounds_toArray, List.set_cons_zero, List.set_cons_succ])
  refine wpAnyM_take 14 (v := ?_) rfl (by kernel_rfl) (fun _ _ _ h => h) (Or.inl ⟨by rfl, ?_⟩) (by assumption) ?_
  rotate_left
  · (intro wx hSw; (try dsimp only at hSw); go_simp; (try with_reducible rfl))
  (try simp only [Act.put, List.setIfInBounds_toArray, List.set_cons_zero, List.set_cons_succ])
  first | (refine wpAnyM_take 15 (v := ?_) rfl (by kernel_rfl) (fun _ _ _ h => h) (Or.inl ⟨by rfl, ?_⟩) (by assumption) ?_; rotate_left; focus ((intro wx hSw; (try dsimp only at hSw); go_simp; (try with_reducible rfl)))) | (refine wpAnyM_take 15 rfl (by kernel_rfl) (fun _ _ _ h => h) (Or.inr ⟨by rfl, rfl⟩) (by assumption) ?_)
  (try simp only [Act.put, List.setIfInBounds_toArray, List.set_cons_zero, List.set_cons_succ])
  first | (refine wpAnyM_take 16 (v := ?_) rfl (by kernel_rfl) (fun _ _ _ h => h) (Or.inl ⟨by rfl, ?_⟩) (by assumption) ?_; rotate_left; focus ((intro wx hSw; refine Eq.trans (run_load_row 29 (.tmp 2) (by rfl) (b2) (by rfl) _ _ _ _ (hSw.1) Try.underlying29 rfl (icov.trans (by rw [arrv_size]))) ?_; with_reducible rfl))) | (refine wpAnyM_take 16 rfl (by kernel_rfl) (fun _ _ _ h => h) (Or.inr ⟨by rfl, rfl⟩) (by assumption) ?_)
  (try simp only [Act.put, List.setIfInBounds_toArray, List.set_cons_zero, List.set_cons_succ])
  first | (refine wpAnyM_take 18 (v := ?_) rfl (by kernel_rfl) (fun _ _ _ h => h) (Or.inl ⟨by rfl, ?_⟩) (by assumption) ?_; rotate_left; focus ((intro wx hSw; refine Eq.trans (run_load_row 29 (.tmp 2) (by rfl) (b2) (by rfl) _ _ _ _ (hSw.1) Try.underlying29 rfl (icov.trans (by rw [arrv_size]))) ?_; with_reducible rfl))) | (refine wpAnyM_take 18 rfl (by kernel_rfl) (fun _ _ _ h => h) (Or.inr ⟨by rfl, rfl⟩) (by assumption) ?_)
  (try simp only [Act.put, List.setIfInBounds_toArray, List.set_cons_zero, List.set_cons_succ])
  refine wpAnyM_oneS 17 rfl (by kernel_rfl) (fun K hK => ?_)
  go_simp
  (refine (grow_any ⟨bc, 0, none⟩ false bk0 0 none 0 0 (fun _ => 0) w6 S6.out.fl.cell S6.out.fl.free (fun i hi => by omega) (by omega) (by omega)).mono ?_); (rw [GH.out]); rintro e w7 ⟨rfl, hu7⟩; have S7 := Lib.hid (S6.out.upd hwb hb2c hu7); clear hu7
  (try dsimp only)
  (try simp only [Act.put, List.setIfInBounds_toArray, List.set_cons_zero, List.set_cons_succ])
  clear hHeld
  refine hK.out _ _ ?_ (fun hHeld => ?_)
  · exact ⟨S7.out.pB, S7.out.fl⟩
  clear hK K
  (try simp only [Act.put, List.setIfInBounds_toArray, List.set_cons_zero, List.set_cons_succ])
  first | (refine wpAnyM_take 19 (v := ?_) rfl (by kernel_rfl) (fun _ _ _ h => h) (Or.inl ⟨by rfl, ?_⟩) (by assumption) ?_; rotate_left; focus ((intro wx hSw; refine Eq.trans (run_op_eqlCov (.tmp 27) (.tmp 28) (by rfl) (by rfl) (by rfl) E3.out) ?_; with_reducible rfl))) | (refine wpAnyM_take 19 rfl (by kernel_rfl) (fun _ _ _ h => h) (Or.inr ⟨by rfl, rfl⟩) (by assumption) ?_)
  (try simp only [Act.put, List.setIfInBounds_toArray, List.set_cons_zero, List.set_cons_succ])
  refine wpAnyM_take 20 (v := ?_) rfl (by kernel_rfl) (fun _ _ _ h => h) (Or.inl ⟨by rfl, ?_⟩) (by assumption) ?_
  rotate_left
  · (intro wx hSw; (try dsimp only at hSw); go_simp; (try with_reducible rfl))
  (try simp only [Act.put, List.setIfInBounds_toArray, List.set_cons_zero, List.set_cons_succ])
  refine wpAnyM_take 21 (v := ?_) rfl (by kernel_rfl) (fun _ _ _ h => h) (Or.inl ⟨by rfl, ?_⟩) (by assumption) ?_
  rotate_left
  · (intro wx hSw; (try dsimp only at hSw); go_simp; (try with_reducible rfl))
  (try simp only [Act.put, List.setIfInBounds_toArray, List.set_cons_zero, List.set_cons_succ])
  first | (refine wpAnyM_take 22 (v := ?_) rfl (by kernel_rfl) (fun _ _ _ h => h) (Or.inl ⟨by rfl, ?_⟩) (by assumption) ?_; rotate_left; focus ((intro wx hSw; (try dsimp only at hSw); go_simp; (try with_reducible rfl)))) | (refine wpAnyM_take 22 rfl (by kernel_rfl) (fun _ _ _ h => h) (Or.inr ⟨by rfl, rfl⟩) (by assumption) ?_)
  (try simp only [Act.put, List.setIfInBounds_toArray, List.set_cons_zero, List.set_cons_succ])
  first | (refine wpAnyM_take 23 (v := ?_) rfl (by kernel_rfl) (fun _ _ _ h => h) (Or.inl ⟨by rfl, ?_⟩) (by assumption) ?_; rotate_left; focus ((intro wx hSw; (try dsimp only at hSw); go_simp; (try with_reducible rfl)))) | (refine wpAnyM_take 23 rfl (by kernel_rfl) (fun _ _ _ h => h) (Or.inr ⟨by rfl, rfl⟩) (by assumption) ?_)
  (try simp only [Act.put, List.setIfInBounds_toArray, List.set_cons_zero, List.set_cons_succ])
  first | (refine wpAnyM_take 24 (v := ?_) rfl (by kernel_rfl) (fun _ _ _ h => h) (Or.inl ⟨by rfl, ?_⟩) (by assumption) ?_; rotate_left; focus ((intro wx hSw; (try dsimp only at hSw); go_simp; (try with_reducible rfl)))) | (refine wpAnyM_take 24 rfl (by kernel_rfl) (fun _ _ _ h => h) (Or.inr ⟨by rfl, rfl⟩) (by assumption) ?_)
  (try simp only [Act.put, List.setIfInBounds_toArray, List.set_cons_zero, List.set_cons_succ])
  first | (refine wpAnyM_take 25 (v := ?_) rfl (by kernel_rfl) (fun _ _ _ h => h) (Or.inl ⟨by rfl, ?_⟩) (by assumption) ?_; rotate_left; focus ((intro wx hSw; have c9 := hSw.2.cell; clear hSw; go_simp; (try with_reducible rfl)))) | (refine wpAnyM_take 25 rfl (by kernel_rfl) (fun _ _ _ h => h) (Or.inr ⟨by rfl, rfl⟩) (by assumption) ?_)
  (try simp only [Act.put, List.setIfInBounds_toArray, List.set_cons_zero, List.set_cons_succ])
  first | (refine wpAnyM_take 26 (v := ?_) rfl (by kernel_rfl) (fun _ _ _ h => h) (Or.inl ⟨by rfl, ?_⟩) (by assumption) ?_; rotate_left; focus ((intro wx hSw; (try dsimp only at hSw); go_simp; (try with_reducible rfl)))) | (refine wpAnyM_take 26 rfl (by kernel_rfl) (fun _ _ _ h => h) (Or.inr ⟨by rfl, rfl⟩) (by assumption) ?_)
  (try simp only [Act.put, List.setIfInBounds_toArray, List.set_cons_zero, List.set_cons_succ])
  refine wpAnyM_take 27 (v := ?_) rfl (by kernel_rfl) (fun _ _ _ h => h) (Or.inl ⟨by rfl, ?_⟩) (by assumption) ?_
  rotate_left
  · (intro wx hSw; (try dsimp only at hSw); go_simp; (try with_reducible rfl))
  (try simp only [Act.put, List.setIfInBounds_toArray, List.set_cons_zero, List.set_cons_succ])
  refine wpAnyM_one 28 rfl (by kernel_rfl) (fun K hK => ?_)
  go_simp
  refine hK.out _ _ (.inl (by kernel_rfl)) (fun _ => ?_)
  clear hK K
  (try simp only [Act.put, List.setIfInBounds_toArray, List.set_cons_zero, List.set_cons_succ])
  refine wpAnyM_done (by kernel_rfl) ?_ _
  go_wp2_with fail
  go_ret
  exact ⟨rfl, S7.out.below⟩
end Go.Proofs.Ytglpbcionohipaa
