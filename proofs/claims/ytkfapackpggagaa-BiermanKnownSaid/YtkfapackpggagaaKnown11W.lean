/- The walk of BiermanKnown. -/
import Derived.Test.YtkfapackpggagaaNothW
namespace Go.Proofs.Ytkfapackpggagaa
open Go.RowKit
set_option maxRecDepth 100000
def kwP : Nat → Int := newF 2 awR
theorem kwP_diag : DiagF kwP := by
  constructor
  · intro x hx; unfold kwP newF; rw [if_pos hx]
  · intro i hi
    unfold kwP newF
    rw [if_neg (by omega), show 276 + i - 276 = i by omega]
    by_cases h : i < 2
    · rw [if_pos h]; simp only [awR]; decide
    · rw [if_neg h]; decide
theorem newH_kw : newH 2 awR = false := by decide
theorem kw11 : (∀ x, x < 300 → updP kwP (fun _ => 0) 7 x = kwP x) ∧ (∀ i, i < 24 → updG kwP (fun _ => 0) 7 i = 0) ∧ updS kwP (fun _ => 0) 7 = 7 ∧ updH kwP (fun _ => 0) 7 = false := by
  obtain ⟨a1, a2, a3⟩ := upd_nothing kwP 7
  obtain ⟨c1, c2⟩ := cond_diag kwP_diag
  refine ⟨fun x hx => by rw [a1 x hx, c1 x hx], fun i _ => a2 i, by rw [a3]; decide, ?_⟩
  rw [(updH_nothing kwP 7).1, c2]; decide
theorem pkS_m1 : pkS (fun _ => -1) 1 = fun _ => 0 := by unfold pkS; rw [if_neg (by decide)]; rfl
set_option maxHeartbeats 4000000 in
theorem known11_walk (w : World) :
    Calls Try.prog 7 #[] w fun e w' => e = .returned (.bool true) ∧ Below w.heap.size w w' := by
  obtain ⟨n1, n2, n3, n4⟩ := kw11
  go_enter Try.func7, Try.ntmps7
  go_upto_region 3 with (go_at_call 8; (refine (awake_any _).mono ?_); rintro e wa ⟨rfl, hba⟩; have BA := Lib.hid hba; clear hba)
  have hz0 := BA.out.size
  obtain ⟨bc, hbc⟩ : ∃ x, wa.heap.size = x := ⟨_, rfl⟩
  obtain ⟨W0, hW0⟩ : ∃ x, (wa.alloc (.cells #[.bool false] 29)).alloc (.cells #[.int .i64 17592186044416, .int .i64 17592186044416] 2) = x := ⟨_, rfl⟩
  have F0 : Flg W0 bc false := by rw [← hW0, ← hbc]; exact (Flg.new wa false).alloc _
  have B0 : Below w.heap.size w W0 := by rw [← hW0]; exact (BA.out.alloc BA.out.size _).alloc (by simp; omega) _
  have L0 : Slc W0 (some ⟨bc + 1, 0, none⟩) 2 awR := by
    rw [← hW0, ← hbc]
    intro i hi
    obtain rfl | rfl : i = 0 ∨ i = 1 := by omega
    · exact ⟨_, _, rfl, by simp [go_sem, awR]⟩
    · exact ⟨_, _, rfl, by simp [go_sem, awR]⟩
  have N0 := Lib.hid (new_any _ false _ _ 2 awR W0 F0.cell F0.free L0)
  obtain ⟨Fq, hFq⟩ : ∃ x, updP kwP (fun _ => 0) 7 = x := ⟨_, rfl⟩
  obtain ⟨Gq, hGq⟩ : ∃ x, updG kwP (fun _ => 0) 7 = x := ⟨_, rfl⟩
  rw [hFq] at n1
  rw [hGq] at n2
  have hE1 := Lib.hid (covB_iff.2 n1)
  have hE2 := Lib.hid ((eqB_iff (n := 24) (f := Gq) (g := fun _ => 0)).2 n2)
  go_upto_region 5 with (first | (go_at_call 12; (refine N0.out.mono ?_); rintro e w1 ⟨rfl, hu1⟩; (rw [newH_kw] at hu1); replace hu1 : Upd ⟨bc, 0, none⟩ false W0 w1 := hu1; have F1 := Lib.hid (F0.hit hu1); have B1 := Lib.hid (own_upd B0 (by show w.heap.size ≤ bc; omega) hu1); clear hu1) | (go_at_call 13; (refine (pick_any none 0 _ (fun _ => 0) w1 (fun i hi => by omega) (by omega)).mono ?_); rintro e w2 ⟨rfl, hb2⟩; (rw [show pkS (fun _ => 0) 0 = fun _ => 0 from rfl]); have F2 := Lib.hid (F1.out.below hb2); have B2 := Lib.hid (Below.after B1.out hb2); clear hb2) | (go_at_call 10; (rw [show newF 2 awR = kwP from rfl]); (refine (update_any _ false kwP (fun _ => 0) 7 w2 F2.out.cell F2.out.free).mono ?_); rintro e w3 ⟨rfl, hu3⟩; (rw [n3, hFq, hGq]); (rw [n4] at hu3); replace hu3 : Upd ⟨bc, 0, none⟩ false w2 w3 := hu3; have F3 := Lib.hid (F2.out.hit hu3); have B3 := Lib.hid (own_upd B2.out (by show w.heap.size ≤ bc; omega) hu3); (have RA : Blk ((w3.alloc (.cells Try.zeroCells25 25)).alloc (.cells #[.int .i64 0, .int .i64 0, .int .i64 0, .int .i64 0, .int .i64 0, .int .i64 0, .int .i64 0, .int .i64 0, .int .i64 0, .int .i64 0, .int .i64 0, .int .i64 0, .int .i64 0, .int .i64 0, .int .i64 0, .int .i64 0, .int .i64 0, .int .i64 0, .int .i64 0, .int .i64 0, .int .i64 0, .int .i64 0, .int .i64 0, .int .i64 0] 31)) w3.heap.size 25 300 (fun _ => 0) := (by rw [zcov]; exact (Blk.new _ _ _ _).alloc _); have RB : Blk (((w3.alloc (.cells Try.zeroCells25 25)).alloc (.cells #[.int .i64 0, .int .i64 0, .int .i64 0, .int .i64 0, .int .i64 0, .int .i64 0, .int .i64 0, .int .i64 0, .int .i64 0, .int .i64 0, .int .i64 0, .int .i64 0, .int .i64 0, .int .i64 0, .int .i64 0, .int .i64 0, .int .i64 0, .int .i64 0, .int .i64 0, .int .i64 0, .int .i64 0, .int .i64 0, .int .i64 0, .int .i64 0] 31)).setRow w3.heap.size (arrv 300 (Fq))) (w3.heap.size + 1) 31 24 (fun _ => 0) := (by rw [zrow]; exact (Blk.new1 _ _ _ _ _).setRow_other _ (by omega))); clear hu3) | (refine wpList_store_row rfl 25 _ _ rfl (w3.heap.size) _ rfl rfl 25 _ (RA) (icov.trans (by rw [arrv_size])) (by rw [arrv_size, arrv_size]) (oneCell_arrv _ _) ?_) | (refine wpList_store_row rfl 31 _ _ rfl (w3.heap.size + 1) _ rfl rfl 31 _ (RB) (irow.trans (by rw [arrv_size])) (by rw [arrv_size, arrv_size]) (oneCell_arrv _ _) ?_))
  obtain ⟨w4, hw4⟩ : ∃ x, x = ((((w3.alloc (.cells Try.zeroCells25 25)).alloc (.cells #[.int .i64 0, .int .i64 0, .int .i64 0, .int .i64 0, .int .i64 0, .int .i64 0, .int .i64 0, .int .i64 0, .int .i64 0, .int .i64 0, .int .i64 0, .int .i64 0, .int .i64 0, .int .i64 0, .int .i64 0, .int .i64 0, .int .i64 0, .int .i64 0, .int .i64 0, .int .i64 0, .int .i64 0, .int .i64 0, .int .i64 0, .int .i64 0] 31)).setRow w3.heap.size (arrv 300 (Fq))).setRow (w3.heap.size + 1) (arrv 24 (Gq))) := ⟨_, rfl⟩; rw [← hw4]; obtain ⟨N0, N1, NB⟩ := two_made _ _ hw4; clear hw4
  have F4 := Lib.hid (F3.out.below NB)
  have B4 := Lib.hid (Below.after B3.out NB)
  have N4 := Lib.hid N0
  have N5 := Lib.hid N1
  obtain ⟨ba, hba⟩ : ∃ x, w3.heap.size = x := ⟨_, rfl⟩
  have hbb : bc < ba := by rw [← hba]; exact F3.out.lt
  have hwb : w.heap.size ≤ bc := by omega
  rw [hba] at N4 N5 ⊢
  clear hba RA RB F0 B0 L0 N0 F1 B1 F2 B2 F3 B3 N1 NB n1 n2 hW0 hz0 BA
  refine wp_region_M (fun w' => Blk w' ba 25 300 Fq ∧ Blk w' (ba + 1) 31 24 Gq ∧ Flg w' bc false) 27 (by kernel_rfl) ?_ (fun hHeld => ?_)
  · exact ⟨N4.out, N5.out, F4.out⟩
  refine wpAnyM_take 0 (v := ?_) rfl (by kernel_rfl) (fun _ _ _ h => h) (Or.inl ⟨by rfl, ?_⟩) (by assumption) ?_
  rotate_left
  · (intro wx hSw; refine Eq.trans (run_load_row 25 (.tmp 2) (by rfl) (ba) (by rfl) _ _ _ _ (hSw.1) Try.underlying25 rfl (icov.trans (by rw [arrv_size]))) ?_; with_reducible rfl)
  (try simp only [Act.put, List.setIfInBounds_toArray, List.set_cons_zero, List.set_cons_succ])
  refine wpAnyM_take 1 (v := ?_) rfl (by kernel_rfl) (fun _ _ _ h => h) (Or.inl ⟨by rfl, ?_⟩) (by assumption) ?_
  rotate_left
  · (intro wx hSw; (try dsimp only at hSw); go_simp; (try with_reducible rfl))
  (try simp only [Act.put, List.setIfInBounds_toArray, List.set_cons_zero, List.set_cons_succ])
  refine wpAnyM_oneS 2 rfl (by kernel_rfl) (fun K hK => ?_)
  go_simp
  clear hHeld
  refine hK.out _ _ ?_ (fun hHeld => ?_)
  · exact ⟨N4.out.alloc _, N5.out.alloc _, F4.out.alloc _⟩
  clear hK K
  (try simp only [Act.put, List.setIfInBounds_toArray, List.set_cons_zero, List.set_cons_succ])
  refine wpAnyM_oneS 3 rfl (by kernel_rfl) (fun K hK => ?_)
  go_simp
  have L5 : Slc (w4.alloc (.cells #[.int .i64 17592186044416, .int .i64 17592186044416] 2)).drew (some ⟨w4.heap.size, 0, none⟩) 2 awR := (by intro i hi; obtain rfl | rfl : i = 0 ∨ i = 1 := (by omega); exact ⟨_, _, rfl, by simp [go_sem, awR]⟩; exact ⟨_, _, rfl, by simp [go_sem, awR]⟩); (refine (new_any ⟨bc, 0, none⟩ false _ _ 2 awR (w4.alloc (.cells #[.int .i64 17592186044416, .int .i64 17592186044416] 2)).drew (by exact (F4.out.alloc _).cell) (by exact (F4.out.alloc _).free) L5).mono ?_); rintro e w5 ⟨rfl, hu⟩; (rw [newH_kw] at hu); replace hu : Upd ⟨bc, 0, none⟩ false _ w5 := hu; have F5 := Lib.hid (Flg.hit (show Flg (w4.alloc _).drew bc false from F4.out.alloc _) hu); have B5 := Lib.hid (own_upd (show Below w.heap.size w (w4.alloc _).drew from (B4.out.alloc B4.out.size _).drew) (by show w.heap.size ≤ bc; omega) hu); have G5 := Lib.hid (And.intro (Blk.upd (show Blk (w4.alloc _).drew ba 25 300 Fq from N4.out.alloc _) hu (by show ba ≠ bc; omega)) (Blk.upd (show Blk (w4.alloc _).drew (ba + 1) 31 24 Gq from N5.out.alloc _) hu (by show ba + 1 ≠ bc; omega))); clear hu L5
  (try dsimp only)
  (try simp only [Act.put, List.setIfInBounds_toArray, List.set_cons_zero, List.set_cons_succ])
  clear hHeld
  refine hK.out _ _ ?_ (fun hHeld => ?_)
  · exact ⟨G5.out.1, G5.out.2, F5.out⟩
  clear hK K
  (try simp only [Act.put, List.setIfInBounds_toArray, List.set_cons_zero, List.set_cons_succ])
  refine wpAnyM_take 4 (v := ?_) rfl (by kernel_rfl) (fun _ _ _ h => h) (Or.inl ⟨by rfl, ?_⟩) (by assumption) ?_
  rotate_left
  · (intro wx hSw; refine Eq.trans (run_op_eqlCov (.tmp 19) (.tmp 22) (by rfl) (by rfl) (by rfl) hE1.out) ?_; with_reducible rfl)
  (try simp only [Act.put, List.setIfInBounds_toArray, List.set_cons_zero, List.set_cons_succ])
  refine wpAnyM_take 5 (v := ?_) rfl (by kernel_rfl) (fun _ _ _ h => h) (Or.inl ⟨by rfl, ?_⟩) (by assumption) ?_
  rotate_left
  · (intro wx hSw; (try dsimp only at hSw); go_simp; (try with_reducible rfl))
  (try simp only [Act.put, List.setIfInBounds_toArray, List.set_cons_zero, List.set_cons_succ])
  first | (refine wpAnyM_take 6 (v := ?_) rfl (by kernel_rfl) (fun _ _ _ h => h) (Or.inl ⟨by rfl, ?_⟩) (by assumption) ?_; rotate_left; focus ((intro wx hSw; refine Eq.trans (run_load_row 31 (.tmp 3) (by rfl) (ba + 1) (by rfl) _ _ _ _ (hSw.2.1) Try.underlying31 rfl (irow.trans (by rw [arrv_size]))) ?_; with_reducible rfl))) | (refine wpAnyM_take 6 rfl (by kernel_rfl) (fun _ _ _ h => h) (Or.inr ⟨by rfl, rfl⟩) (by assumption) ?_)
  (try simp only [Act.put, List.setIfInBounds_toArray, List.set_cons_zero, List.set_cons_succ])
  first | (refine wpAnyM_take 7 (v := ?_) rfl (by kernel_rfl) (fun _ _ _ h => h) (Or.inl ⟨by rfl, ?_⟩) (by assumption) ?_; rotate_left; focus ((intro wx hSw; go_simp; rw [zrow]))) | (refine wpAnyM_take 7 rfl (by kernel_rfl) (fun _ _ _ h => h) (Or.inr ⟨by rfl, rfl⟩) (by assumption) ?_)
  (try simp only [Act.put, List.setIfInBounds_toArray, List.set_cons_zero, List.set_cons_succ])
  first | (refine wpAnyM_take 8 (v := ?_) rfl (by kernel_rfl) (fun _ _ _ h => h) (Or.inl ⟨by rfl, ?_⟩) (by assumption) ?_; rotate_left; focus ((intro wx hSw; refine Eq.trans (run_op_eqlRow (.tmp 25) (.tmp 26) (by rfl) (by rfl) (by rfl) hE2.out) ?_; with_reducible rfl))) | (refine wpAnyM_take 8 rfl (by kernel_rfl) (fun _ _ _ h => h) (Or.inr ⟨by rfl, rfl⟩) (by assumption) ?_)
  (try simp only [Act.put, List.setIfInBounds_toArray, List.set_cons_zero, List.set_cons_succ])
  refine wpAnyM_take 9 (v := ?_) rfl (by kernel_rfl) (fun _ _ _ h => h) (Or.inl ⟨by rfl, ?_⟩) (by assumption) ?_
  rotate_left
  · (intro wx hSw; (try dsimp only at hSw); go_simp; (try with_reducible rfl))
  (try simp only [Act.put, List.setIfInBounds_toArray, List.set_cons_zero, List.set_cons_succ])
  refine wpAnyM_take 10 (v := ?_) rfl (by kernel_rfl) (fun _ _ _ h => h) (Or.inl ⟨by rfl, ?_⟩) (by assumption) ?_
  rotate_left
  · (intro wx hSw; (try dsimp only at hSw); go_simp; (try with_reducible rfl))
  (try simp only [Act.put, List.setIfInBounds_toArray, List.set_cons_zero, List.set_cons_succ])
  first | (refine wpAnyM_take 11 (v := ?_) rfl (by kernel_rfl) (fun _ _ _ h => h) (Or.inl ⟨by rfl, ?_⟩) (by assumption) ?_; rotate_left; focus ((intro wx hSw; (try dsimp only at hSw); go_simp; (try with_reducible rfl)))) | (refine wpAnyM_take 11 rfl (by kernel_rfl) (fun _ _ _ h => h) (Or.inr ⟨by rfl, rfl⟩) (by assumption) ?_)
  (try simp only [Act.put, List.setIfInBounds_toArray, List.set_cons_zero, List.set_cons_succ])
  first | (refine wpAnyM_take 12 (v := ?_) rfl (by kernel_rfl) (fun _ _ _ h => h) (Or.inl ⟨by rfl, ?_⟩) (by assumption) ?_; rotate_left; focus ((intro wx hSw; (try dsimp only at hSw); go_simp; (try with_reducible rfl)))) | (refine wpAnyM_take 12 rfl (by kernel_rfl) (fun _ _ _ h => h) (Or.inr ⟨by rfl, rfl⟩) (by assumption) ?_)
  (try simp only [Act.put, List.setIfInBounds_toArray, List.set_cons_zero, List.set_cons_succ])
  refine wpAnyM_take 13 (v := ?_) rfl (by kernel_rfl) (fun _ _ _ h => h) (Or.inl ⟨by rfl, ?_⟩) (by assumption) ?_
  rotate_left
  · (intro wx hSw; (try dsimp only at hSw); go_simp; (try with_reducible rfl))
  (try simp only [Act.put, List.setIfInBounds_toArray, List.set_cons_zero, List.set_cons_succ])
  refine wpAnyM_take 14 (v := ?_) rfl (by kernel_rfl) (fun _ _ _ h => h) (Or.inl ⟨by rfl, ?_⟩) (by assumption) ?_
  rotate_left
  · (intro wx hSw; (try dsimp only at hSw); go_simp; (try with_reducible rfl))
  (try simp only [Act.put, List.setIfInBounds_toArray, List.set_cons_zero, List.set_cons_succ])
  first | (refine wpAnyM_take 15 (v := ?_) rfl (by kernel_rfl) (fun _ _ _ h => h) (Or.inl ⟨by rfl, ?_⟩) (by assumption) ?_; rotate_left; focus ((intro wx hSw; (try dsimp only at hSw); go_simp; (try with_reducible rfl)))) | (refine wpAnyM_take 15 rfl (by kernel_rfl) (fun _ _ _ h => h) (Or.inr ⟨by rfl, rfl⟩) (by assumption) ?_)
  (try simp only [Act.put, List.setIfInBounds_toArray, List.set_cons_zero, List.set_cons_succ])
  first | (refine wpAnyM_take 16 (v := ?_) rfl (by kernel_rfl) (fun _ _ _ h => h) (Or.inl ⟨by rfl, ?_⟩) (by assumption) ?_; rotate_left; focus ((intro wx hSw; (try dsimp only at hSw); go_simp; (try with_reducible rfl)))) | (refine wpAnyM_take 16 rfl (by kernel_rfl) (fun _ _ _ h => h) (Or.inr ⟨by rfl, rfl⟩) (by assumption) ?_)
  (try simp only [Act.put, List.setIfInBounds_toArray, List.set_cons_zero, List.set_cons_succ])
  first | (refine wpAnyM_take 17 (v := ?_) rfl (by kernel_rfl) (fun _ _ _ h => h) (Or.inl ⟨by rfl, ?_⟩) (by assumption) ?_; rotate_left; focus ((intro wx hSw; (try dsimp only at hSw); go_simp; (try with_reducible rfl)))) | (refine wpAnyM_take 17 rfl (by kernel_rfl) (fun _ _ _ h => h) (Or.inr ⟨by rfl, rfl⟩) (by assumption) ?_)
  (try simp only [Act.put, List.setIfInBounds_toArray, List.set_cons_zero, List.set_cons_succ])
  first | (refine wpAnyM_take 18 (v := ?_) rfl (by kernel_rfl) (fun _ _ _ h => h) (Or.inl ⟨by rfl, ?_⟩) (by assumption) ?_; rotate_left; focus ((intro wx hSw; have c9 := hSw.2.2.cell; go_simp; (try with_reducible rfl)))) | (refine wpAnyM_take 18 rfl (by kernel_rfl) (fun _ _ _ h => h) (Or.inr ⟨by rfl, rfl⟩) (by assumption) ?_)
  (try simp only [Act.put, List.setIfInBounds_toArray, List.set_cons_zero, List.set_cons_succ])
  first | (refine wpAnyM_take 19 (v := ?_) rfl (by kernel_rfl) (fun _ _ _ h => h) (Or.inl ⟨by rfl, ?_⟩) (by assumption) ?_; rotate_left; focus ((intro wx hSw; (try dsimp only at hSw); go_simp; (try with_reducible rfl)))) | (refine wpAnyM_take 19 rfl (by kernel_rfl) (fun _ _ _ h => h) (Or.inr ⟨by rfl, rfl⟩) (by assumption) ?_)
  (try simp only [Act.put, List.setIfInBounds_toArray, List.set_cons_zero, List.set_cons_succ])
  refine wpAnyM_take 20 (v := ?_) rfl (by kernel_rfl) (fun _ _ _ h => h) (Or.inl ⟨by rfl, ?_⟩) (by assumption) ?_
  rotate_left
  · (intro wx hSw; (try dsimp only at hSw); go_simp; (try with_reducible rfl))
  (try simp only [Act.put, List.setIfInBounds_toArray, List.set_cons_zero, List.set_cons_succ])
  refine wpAnyM_take 21 (v := ?_) rfl (by kernel_rfl) (fun _ _ _ h => h) (Or.inl ⟨by rfl, ?_⟩) (by assumption) ?_
  rotate_left
  · (intro wx hSw; (try dsimp only at hSw); go_simp; (try with_reducible rfl))
  (try simp only [Act.put, List.setIfInBounds_toArray, List.set_cons_zero, List.set_cons_succ])
  first | (refine wpAnyM_take 24 (v := ?_) rfl (by kernel_rfl) (fun _ _ _ h => h) (Or.inl ⟨by rfl, ?_⟩) (by assumption) ?_; rotate_left; focus ((intro wx hSw; go_simp; rw [zrow]))) | (refine wpAnyM_take 24 rfl (by kernel_rfl) (fun _ _ _ h => h) (Or.inr ⟨by rfl, rfl⟩) (by assumption) ?_)
  (try simp only [Act.put, List.setIfInBounds_toArray, List.set_cons_zero, List.set_cons_succ])
  refine wpAnyM_oneS 22 rfl (by kernel_rfl) (fun K hK => ?_)
  go_simp
  clear hHeld
  refine hK.out _ _ ?_ (fun hHeld => ?_)
  · exact ⟨G5.out.1.alloc _, G5.out.2.alloc _, F5.out.alloc _⟩
  clear hK K
  (try simp only [Act.put, List.setIfInBounds_toArray, List.set_cons_zero, List.set_cons_succ])
  refine wpAnyM_oneS 23 rfl (by kernel_rfl) (fun K hK => ?_)
  go_simp
  have L6 : Slc (w5.alloc (.cells #[.int .i64 (-1)] 3)) (some ⟨w5.heap.size, 0, none⟩) 1 (fun _ => -1) := (by intro i hi; obtain rfl : i = 0 := (by omega); exact ⟨_, _, rfl, by simp [go_sem]⟩); (refine (pick_any _ 1 _ (fun _ => -1) _ L6 (by omega)).mono ?_); rintro e w6 ⟨rfl, hb⟩; (rw [pkS_m1]); have F6 := Lib.hid ((F5.out.alloc _).below hb); have B6 := Lib.hid (Below.after (B5.out.alloc B5.out.size _) hb); have G6 := Lib.hid (And.intro ((G5.out.1.alloc _).below hb) ((G5.out.2.alloc _).below hb)); clear hb L6
  (try dsimp only)
  (try simp only [Act.put, List.setIfInBounds_toArray, List.set_cons_zero, List.set_cons_succ])
  clear hHeld
  refine hK.out _ _ ?_ (fun hHeld => ?_)
  · exact ⟨G6.out.1, G6.out.2, F6.out⟩
  clear hK K
  (try simp only [Act.put, List.setIfInBounds_toArray, List.set_cons_zero, List.set_cons_succ])
  first | (refine wpAnyM_take 25 (v := ?_) rfl (by kernel_rfl) (fun _ _ _ h => h) (Or.inl ⟨by rfl, ?_⟩) (by assumption) ?_; rotate_left; focus ((intro wx hSw; refine Eq.trans (run_op_eqlRow (.tmp 42) (.tmp 43) (by rfl) (by rfl) (by rfl) (eqB_iff.2 fun _ _ => rfl)) ?_; with_reducible rfl))) | (refine wpAnyM_take 25 rfl (by kernel_rfl) (fun _ _ _ h => h) (Or.inr ⟨by rfl, rfl⟩) (by assumption) ?_)
  (try simp only [Act.put, List.setIfInBounds_toArray, List.set_cons_zero, List.set_cons_succ])
  refine wpAnyM_take 26 (v := ?_) rfl (by kernel_rfl) (fun _ _ _ h => h) (Or.inl ⟨by rfl, ?_⟩) (by assumption) ?_
  rotate_left
  · (intro wx hSw; (try dsimp only at hSw); go_simp; (try with_reducible rfl))
  (try simp only [Act.put, List.setIfInBounds_toArray, List.set_cons_zero, List.set_cons_succ])
  refine wpAnyM_one 27 rfl (by kernel_rfl) (fun K hK => ?_)
  go_simp
  refine hK.out _ _ (.inl (by kernel_rfl)) (fun _ => ?_)
  clear hK K
  (try simp only [Act.put, List.setIfInBounds_toArray, List.set_cons_zero, List.set_cons_succ])
  refine wpAnyM_done (by kernel_rfl) ?_ _
  go_wp2_with fail
  go_ret
  exact ⟨rfl, B6.out⟩
end Go.Proofs.Ytkfapackpggagaa
