/- The walk of the law JacKnown. -/
import Derived.Test.YtanmddenleffaaaQ19
import Derived.Test.YtanmddenleffaaaQ20
namespace Go.Proofs.Ytanmddenleffaaa
open Go.RowKit
set_option maxRecDepth 100000
def jkN : Nat → Int := fun i => if i = 5 then 7 else 0
theorem jk_of : jofH jaS (fun _ => 0) = false := by decide +kernel
theorem jk_no : (∀ i, i < 24 → noF jkN 0 i = 0) ∧ noH jkN 0 = false := by decide +kernel
open Go in
theorem jk_bimu {o : Oper} {ev : Operand → Value} {w : World} (ho : o.op = .build 33 #[]) :
    (execOp ev o).run Try.prog w = .ok (.value (.agg (arrv 8 (fun _ => 0)))) w := by
  unfold execOp
  simp only [ho, List.map_toArray, List.map_nil]
  kernel_rfl
open Go in
theorem jk_bn {o : Oper} {ev : Operand → Value} {w : World} (ho : o.op = .build 26 #[(5, .const (.int .i64 7))]) (hx : ev (.const (.int .i64 7)) = .int .i64 7) :
    (execOp ev o).run Try.prog w = .ok (.value (.agg (arrv 24 jkN))) w := by
  unfold execOp
  simp only [ho, List.map_toArray, List.map_cons, List.map_nil, hx]
  kernel_rfl
set_option maxHeartbeats 16000000 in
theorem known17_walk (w : World) : Calls Try.prog 3 #[] w fun e w' => e = .returned (.bool true) ∧ Below w.heap.size w w' := by
  have OC0 := fun (c : Addr) (x : World) (k : x.cell? c = some (.bool false)) (f : x.frozen? c = false) => jof_any c false jaS (fun _ => 0) x k f
  rw [jk_of, Bool.false_or, arrv_congr (jof_still jaS)] at OC0
  have OC := Lib.hid OC0
  have NC0 := fun (c : Addr) (x : World) (k : x.cell? c = some (.bool false)) (f : x.frozen? c = false) => noise_any c false jkN 0 x k f
  rw [jk_no.2, Bool.false_or, arrv_congr (g := fun _ => 0) jk_no.1] at NC0
  have NC := Lib.hid NC0
  have HE := Lib.hid (And.intro (eqM_iff.2 (fun x _ => rfl) : eqM oneF oneF = true) (eqB_iff.2 (fun i _ => rfl) : eqB 24 (fun _ => 0) (fun _ => 0) = true))
  clear OC0 NC0
  go_enter Try.func3, Try.ntmps3
  go_upto_region 3 with (go_at_call 8; (refine (awake17_any _).mono ?_); rintro e w1 ⟨rfl, hb1⟩; have S1 := Lib.hid hb1; clear hb1)
  go_upto_region 4 with fail
  obtain ⟨bc, hbc⟩ : ∃ x, w1.heap.size = x := ⟨_, rfl⟩
  have K4 := Lib.hid (Flg.new w1 false)
  have b4 : Below w1.heap.size w1 (w1.alloc (.cells #[.bool false] 25)) := (Below.refl _ _).alloc (Nat.le_refl _) _
  have R4 := Lib.hid (show Below w.heap.size w (w1.alloc (.cells #[.bool false] 25)) ∧ w.heap.size ≤ bc from ⟨Below.after S1.out b4, by rw [← hbc]; exact S1.out.size⟩)
  rw [hbc] at K4 ⊢
  generalize w1.alloc (.cells #[.bool false] 25) = W4 at *
  clear S1 hbc b4
  have M4 := Lib.hid (ls_nil K4.out.cell K4.out.free)
  clear K4
  refine wp_region_lit ?_
  refine wpList_val (v := ?_) rfl ?_ ?_
  rotate_left
  · (go_simp; (try (first | with_reducible rfl | (constructor <;> with_reducible rfl))))
  (try simp only [Act.put, nA, nB, nC])
  refine wpList_val (v := ?_) rfl ?_ ?_
  rotate_left
  · (refine Eq.trans (ja_bst (by rfl) (by rfl)) ?_; with_reducible rfl)
  (try simp only [Act.put, nA, nB, nC])
  refine wpList_val (v := ?_) rfl ?_ ?_
  rotate_left
  · (refine Eq.trans (jk_bimu (by rfl)) ?_; with_reducible rfl)
  (try simp only [Act.put, nA, nB, nC])
  refine wpList_step (fun K hK => ?_)
  go_simp
  (refine (OC.out _ _ M4.out.cell M4.out.free).mono ?_); rintro e w2 ⟨rfl, hu⟩; have M5 := Lib.hid (M4.out.upd' hu); clear hu M4 OC
  (try dsimp only)
  (try simp only [Act.put, nA, nB, nC])
  refine hK _ _ ?_
  clear hK K
  refine wpList_act (v := ?_) (w' := ?_) rfl ?_ ?_
  rotate_left 2
  · (go_simp; (try (first | with_reducible rfl | (constructor <;> with_reducible rfl))))
  (try simp only [Act.put, nA, nB, nC])
  refine wpList_done (w' := ?_) rfl ?_ ?_
  rotate_left
  · (refine Eq.trans (run_store_row 28 (.tmp 2) (.tmp 10) (by rfl) (w2.heap.size) (by rfl) (by rfl) (show Blk (w2.alloc (.cells Try.zeroCells28 28)) w2.heap.size 28 576 (fun _ => 0) by rw [zmat]; exact Blk.new _ _ _ _) (imat.trans rfl)) ?_; with_reducible rfl)
  (try simp only [Act.put, nA, nB, nC])
  refine wpList_nil ?_
  have M6 := M5.out.put 28 576 (fun _ => 0) oneF
  rw [← zmat] at M6
  have HS := Lib.hid M6.drew
  obtain ⟨fb, hfb⟩ : ∃ x, w2.heap.size = x := ⟨_, rfl⟩
  clear M6
  rw [hfb] at HS ⊢
  generalize (w2.alloc (.cells Try.zeroCells28 28)).setRow fb (arrv 576 oneF) = W6 at *
  clear M5 hfb
  go_upto_region 5 with fail
  refine wp_region_M (fun w' => Blk w' fb 28 576 oneF ∧ w'.cell? ⟨bc, 0, none⟩ = some (.bool false)) 17 (by kernel_rfl) ?_ (fun hHeld => ?_)
  · exact ⟨HS.out.e0, HS.out.cell⟩
  refine wpAnyM_take 0 (v := ?_) rfl (by kernel_rfl) (fun _ _ _ h => h) (Or.inl ⟨by rfl, ?_⟩) (by assumption) ?_
  rotate_left
  · (intro wx hSw; refine Eq.trans (run_load_row 28 (.tmp 2) (by rfl) fb (by rfl) _ _ _ _ hSw.1 Try.underlying28 rfl (imat.trans (by rw [arrv_size]))) ?_; with_reducible rfl)
  (try simp only [Act.put, nA, nB, nC])
  refine wpAnyM_oneS 1 rfl (by kernel_rfl) (fun K hK => ?_)
  go_simp
  (refine (one_any _).mono ?_); rintro e w3 ⟨rfl, hb⟩; have HS2 := Lib.hid (HS.out.down hb); clear HS hb; have HS := HS2; clear HS2
  (try dsimp only)
  (try simp only [Act.put, nA, nB, nC])
  clear hHeld
  refine hK.out _ _ ?_ (fun hHeld => ?_)
  · exact ⟨HS.out.e0, HS.out.cell⟩
  clear hK K
  (try simp only [Act.put, nA, nB, nC])
  refine wpAnyM_take 2 (v := ?_) rfl (by kernel_rfl) (fun _ _ _ h => h) (Or.inl ⟨by rfl, ?_⟩) (by assumption) ?_
  rotate_left
  · (intro wx hSw; refine Eq.trans (run_op_eqlMat (.tmp 11) (.tmp 12) (by rfl) (by rfl) (by rfl) HE.out.1) ?_; with_reducible rfl)
  (try simp only [Act.put, nA, nB, nC])
  refine wpAnyM_take 3 (v := ?_) rfl (by kernel_rfl) (fun _ _ _ h => h) (Or.inl ⟨by rfl, ?_⟩) (by assumption) ?_
  rotate_left
  · (intro wx hSw; (try dsimp only at hSw); go_simp; (try with_reducible rfl))
  (try simp only [Act.put, nA, nB, nC])
  first | (refine wpAnyM_take 4 (v := ?_) rfl (by kernel_rfl) (fun _ _ _ h => h) (Or.inl ⟨by rfl, ?_⟩) (by assumption) ?_; rotate_left; focus ((intro wx hSw; (try dsimp only at hSw); go_simp; (try with_reducible rfl)))) | (refine wpAnyM_take 4 rfl (by kernel_rfl) (fun _ _ _ h => h) (Or.inr ⟨by rfl, rfl⟩) (by assumption) ?_)
  (try simp only [Act.put, nA, nB, nC])
  first | (refine wpAnyM_take 5 (v := ?_) rfl (by kernel_rfl) (fun _ _ _ h => h) (Or.inl ⟨by rfl, ?_⟩) (by assumption) ?_; rotate_left; focus ((intro wx hSw; refine Eq.trans (jk_bn (by rfl) (by rfl)) ?_; with_reducible rfl))) | (refine wpAnyM_take 5 rfl (by kernel_rfl) (fun _ _ _ h => h) (Or.inr ⟨by rfl, rfl⟩) (by assumption) ?_)
  (try simp only [Act.put, nA, nB, nC])
  first | (refine wpAnyM_take 7 (v := ?_) rfl (by kernel_rfl) (fun _ _ _ h => h) (Or.inl ⟨by rfl, ?_⟩) (by assumption) ?_; rotate_left; focus ((intro wx hSw; refine Eq.trans (ja_bn0 (by rfl)) ?_; with_reducible rfl))) | (refine wpAnyM_take 7 rfl (by kernel_rfl) (fun _ _ _ h => h) (Or.inr ⟨by rfl, rfl⟩) (by assumption) ?_)
  (try simp only [Act.put, nA, nB, nC])
  refine wpAnyM_oneS 6 rfl (by kernel_rfl) (fun K hK => ?_)
  go_simp
  (refine (NC.out _ _ HS.out.cell HS.out.free).mono ?_); rintro e w4 ⟨rfl, hu⟩; have HS2 := Lib.hid (HS.out.upd' hu); clear HS hu; have HS := HS2; clear HS2
  (try dsimp only)
  (try simp only [Act.put, nA, nB, nC])
  clear hHeld
  refine hK.out _ _ ?_ (fun hHeld => ?_)
  · exact ⟨HS.out.e0, HS.out.cell⟩
  clear hK K
  (try simp only [Act.put, nA, nB, nC])
  first | (refine wpAnyM_take 8 (v := ?_) rfl (by kernel_rfl) (fun _ _ _ h => h) (Or.inl ⟨by rfl, ?_⟩) (by assumption) ?_; rotate_left; focus ((intro wx hSw; refine Eq.trans (run_op_eqlVec Try.underlying26 (by kernel_rfl) (.tmp 17) (.tmp 18) (by rfl) (by rfl) (by rfl) HE.out.2) ?_; with_reducible rfl))) | (refine wpAnyM_take 8 rfl (by kernel_rfl) (fun _ _ _ h => h) (Or.inr ⟨by rfl, rfl⟩) (by assumption) ?_)
  (try simp only [Act.put, nA, nB, nC])
  refine wpAnyM_take 9 (v := ?_) rfl (by kernel_rfl) (fun _ _ _ h => h) (Or.inl ⟨by rfl, ?_⟩) (by assumption) ?_
  rotate_left
  · (intro wx hSw; (try dsimp only at hSw); go_simp; (try with_reducible rfl))
  (try simp only [Act.put, nA, nB, nC])
  refine wpAnyM_take 10 (v := ?_) rfl (by kernel_rfl) (fun _ _ _ h => h) (Or.inl ⟨by rfl, ?_⟩) (by assumption) ?_
  rotate_left
  · (intro wx hSw; (try dsimp only at hSw); go_simp; (try with_reducible rfl))
  (try simp only [Act.put, nA, nB, nC])
  first | (refine wpAnyM_take 11 (v := ?_) rfl (by kernel_rfl) (fun _ _ _ h => h) (Or.inl ⟨by rfl, ?_⟩) (by assumption) ?_; rotate_left; focus ((intro wx hSw; (try dsimp only at hSw); go_simp; (try with_reducible rfl)))) | (refine wpAnyM_take 11 rfl (by kernel_rfl) (fun _ _ _ h => h) (Or.inr ⟨by rfl, rfl⟩) (by assumption) ?_)
  (try simp only [Act.put, nA, nB, nC])
  first | (refine wpAnyM_take 12 (v := ?_) rfl (by kernel_rfl) (fun _ _ _ h => h) (Or.inl ⟨by rfl, ?_⟩) (by assumption) ?_; rotate_left; focus ((intro wx hSw; (try dsimp only at hSw); go_simp; (try with_reducible rfl)))) | (refine wpAnyM_take 12 rfl (by kernel_rfl) (fun _ _ _ h => h) (Or.inr ⟨by rfl, rfl⟩) (by assumption) ?_)
  (try simp only [Act.put, nA, nB, nC])
  first | (refine wpAnyM_take 13 (v := ?_) rfl (by kernel_rfl) (fun _ _ _ h => h) (Or.inl ⟨by rfl, ?_⟩) (by assumption) ?_; rotate_left; focus ((intro wx hSw; (try dsimp only at hSw); go_simp; (try with_reducible rfl)))) | (refine wpAnyM_take 13 rfl (by kernel_rfl) (fun _ _ _ h => h) (Or.inr ⟨by rfl, rfl⟩) (by assumption) ?_)
  (try simp only [Act.put, nA, nB, nC])
  first | (refine wpAnyM_take 14 (v := ?_) rfl (by kernel_rfl) (fun _ _ _ h => h) (Or.inl ⟨by rfl, ?_⟩) (by assumption) ?_; rotate_left; focus ((intro wx hSw; have h0 := hSw.2; go_simp; (try with_reducible rfl)))) | (refine wpAnyM_take 14 rfl (by kernel_rfl) (fun _ _ _ h => h) (Or.inr ⟨by rfl, rfl⟩) (by assumption) ?_)
  (try simp only [Act.put, nA, nB, nC])
  first | (refine wpAnyM_take 15 (v := ?_) rfl (by kernel_rfl) (fun _ _ _ h => h) (Or.inl ⟨by rfl, ?_⟩) (by assumption) ?_; rotate_left; focus ((intro wx hSw; (try dsimp only at hSw); go_simp; (try with_reducible rfl)))) | (refine wpAnyM_take 15 rfl (by kernel_rfl) (fun _ _ _ h => h) (Or.inr ⟨by rfl, rfl⟩) (by assumption) ?_)
  (try simp only [Act.put, nA, nB, nC])
  refine wpAnyM_take 16 (v := ?_) rfl (by kernel_rfl) (fun _ _ _ h => h) (Or.inl ⟨by rfl, ?_⟩) (by assumption) ?_
  rotate_left
  · (intro wx hSw; (try dsimp only at hSw); go_simp; (try with_reducible rfl))
  (try simp only [Act.put, nA, nB, nC])
  refine wpAnyM_one 17 rfl (by kernel_rfl) (fun K hK => ?_)
  go_simp
  refine hK.out _ _ (.inl (by kernel_rfl)) (fun _ => ?_)
  clear hK K
  (try simp only [Act.put, nA, nB, nC])
  refine wpAnyM_done (by kernel_rfl) ?_ _
  have HZ := Lib.hid (own_upd R4.out.1 R4.out.2 HS.out.upd)
  clear HS
  go_wp2_with fail
  go_ret
  exact ⟨rfl, HZ.out⟩
end Go.Proofs.Ytanmddenleffaaa
