/- Contracts of package rot (5): FromYaw. -/
import Derived.Test.YtnnjcdbliaecgaaS01
namespace Go.Proofs.Ytnnjcdbliaecgaa
open Go.RowKit
set_option maxRecDepth 100000
/-- The blocks of rot.FromYaw. -/
structure FyR (c : Addr) (h : Bool) (w wr : World) : Prop where
  upd : Upd c h w wr
  r : Blk wr w.heap.size 42 4 (fun _ => 0)
  cell : wr.cell? c = some (.bool h)
  free : wr.frozen? c = false
  cb : c.block < w.heap.size
theorem FyR.upd' {c : Addr} {h h' : Bool} {w wr w' : World} (s : FyR c h w wr) (u : Upd c h' wr w') : FyR c h' w w' := by
  have hcb := s.cb
  exact ⟨s.upd.trans u, s.r.upd u (by omega), u.cellc s.cell, (u.frozen (World.block_lt_of_cell? _ _ s.cell)).trans s.free, s.cb⟩
theorem fy_start (c : Addr) (h : Bool) (w : World) (hc : w.cell? c = some (.bool h)) (hf : w.frozen? c = false) :
    FyR c h w (w.alloc (.cells #[.int .i64 0, .int .i64 0, .int .i64 0, .int .i64 0] 42)) := by
  have hcb := World.block_lt_of_cell? w c hc
  have bl : Below w.heap.size w (w.alloc (.cells #[.int .i64 0, .int .i64 0, .int .i64 0, .int .i64 0] 42)) := by (repeat (first | with_reducible exact Below.refl _ _ | with_reducible apply Below.drew | (with_reducible refine below_drewN ?_ _) | (with_reducible refine Below.alloc ?_ (by (try simp) <;> omega) _) | (with_reducible refine Below.setCell ?_ (by (try simp) <;> omega) _)))
  refine ⟨Upd.then (Upd.refl hc) bl, ?_, (bl.cell hcb).trans hc, (bl.frozen hcb).trans hf, hcb⟩
  rw [zq4]; exact Blk.new w _ 4 _
set_option maxHeartbeats 8000000 in
theorem fromyaw_any (c : Addr) (h : Bool) (a : Int) (w : World) (hc : w.cell? c = some (.bool h)) (hf : w.frozen? c = false) :
    Calls Try.prog 15 #[.pointer (some c), .int .i64 a] w fun e w' => e = .returned (.agg (arrv 4 (fyV a))) ∧ Upd c (h || fyH a) w w' := by
  have S0 := Lib.hid (fy_start c h w hc hf)
  have WC := fun (x : World) => wrap_any a x
  have MC := fun (x : World) (k : x.cell? c = some (.bool h)) (f : x.frozen? c = false) => fmul_any c h (wrpV a) 536870912 30 x k f
  have HV : fyV a = uniV (q4 (cosV (fyM a)) 0 0 (sinV (fyM a))) ∧ (h || fyH a) = (h || mulH (wrpV a) 536870912 30 || cosH (fyM a) || sinH (fyM a) || uniH (q4 (cosV (fyM a)) 0 0 (sinV (fyM a)))) := ⟨rfl, by unfold fyH; simp [Bool.or_assoc]⟩
  rw [show mulV (wrpV a) 536870912 30 = fyM a from rfl] at MC
  obtain ⟨W, hW⟩ : ∃ x, wrpV a = x := ⟨_, rfl⟩
  obtain ⟨M, hM⟩ : ∃ x, fyM a = x := ⟨_, rfl⟩
  rw [hW] at WC MC HV
  rw [hM] at MC HV
  obtain ⟨H1, hH1⟩ : ∃ x, (h || mulH W 536870912 30) = x := ⟨_, rfl⟩
  rw [hH1] at MC HV
  have CC := fun (x : World) (k : x.cell? c = some (.bool H1)) (f : x.frozen? c = false) => cos_any c H1 M x k f
  obtain ⟨C, hC⟩ : ∃ x, cosV M = x := ⟨_, rfl⟩
  obtain ⟨H2, hH2⟩ : ∃ x, (H1 || cosH M) = x := ⟨_, rfl⟩
  rw [hC, hH2] at CC
  rw [hC, hH2] at HV
  have NN := fun (x : World) (k : x.cell? c = some (.bool H2)) (f : x.frozen? c = false) => sin_any c H2 M x k f
  obtain ⟨S, hS⟩ : ∃ x, sinV M = x := ⟨_, rfl⟩
  obtain ⟨H3, hH3⟩ : ∃ x, (H2 || sinH M) = x := ⟨_, rfl⟩
  rw [hS, hH3] at NN
  rw [hS, hH3] at HV
  have UC := fun (x : World) (k : x.cell? c = some (.bool H3)) (f : x.frozen? c = false) => qunit_any c H3 (q4 C 0 0 S) x k f
  obtain ⟨E, hE⟩ : ∃ x, uniV (q4 C 0 0 S) = x := ⟨_, rfl⟩
  rw [hE] at UC HV
  have WC := Lib.hid WC
  have MC := Lib.hid MC
  have CC := Lib.hid CC
  have NN := Lib.hid NN
  have UC := Lib.hid UC
  have HV := Lib.hid HV
  clear hW hM hH1 hC hH2 hS hH3 hE hc hf
  go_enter Try.func15, Try.ntmps15
  go_upto_region 1 with fail
  generalize w.alloc (.cells #[.int .i64 0, .int .i64 0, .int .i64 0, .int .i64 0] 42) = W0 at *
  go_upto_region 2 with (first | (go_at_call 37; (refine (WC.out _).mono ?_); rintro e w1 ⟨rfl, rfl⟩) | (go_at_call 13; (refine (MC.out _ S0.out.cell S0.out.free).mono ?_); rintro e w2 ⟨rfl, hu⟩; have S1 := Lib.hid (S0.out.upd' hu); clear hu S0))
  refine wp_region_lit ?_
  refine wpList_val (v := ?_) rfl ?_ ?_
  rotate_left
  · (go_simp; (try (first | with_reducible rfl | (constructor <;> with_reducible rfl))))
  (try simp only [Act.put, nA, nB, nC])
  refine wpList_val (v := ?_) rfl ?_ ?_
  rotate_left
  · (go_simp; (try (first | with_reducible rfl | (constructor <;> with_reducible rfl))))
  (try simp only [Act.put, nA, nB, nC])
  refine wpList_val (v := ?_) rfl ?_ ?_
  rotate_left
  · (go_simp; (try (first | with_reducible rfl | (constructor <;> with_reducible rfl))))
  (try simp only [Act.put, nA, nB, nC])
  refine wpList_step (fun K hK => ?_)
  go_simp
  (refine (CC.out _ S1.out.cell S1.out.free).mono ?_); rintro e w3 ⟨rfl, hu⟩; have S2 := Lib.hid (S1.out.upd' hu); clear hu S1
  (try dsimp only)
  (try simp only [Act.put, nA, nB, nC])
  refine hK _ _ ?_
  clear hK K
  refine wpList_val (v := ?_) rfl ?_ ?_
  rotate_left
  · (go_simp; (try (first | with_reducible rfl | (constructor <;> with_reducible rfl))))
  (try simp only [Act.put, nA, nB, nC])
  refine wpList_val (v := ?_) rfl ?_ ?_
  rotate_left
  · (go_simp; (try (first | with_reducible rfl | (constructor <;> with_reducible rfl))))
  (try simp only [Act.put, nA, nB, nC])
  refine wpList_step (fun K hK => ?_)
  go_simp
  (refine (NN.out _ S2.out.cell S2.out.free).mono ?_); rintro e w4 ⟨rfl, hu⟩; have S3 := Lib.hid (S2.out.upd' hu); clear hu S2
  (try dsimp only)
  (try simp only [Act.put, nA, nB, nC])
  refine hK _ _ ?_
  clear hK K
  refine wpList_val (v := ?_) rfl ?_ ?_
  rotate_left
  · (refine Eq.trans (run_build_q4' (.tmp 13) (.tmp 16) (by rfl) (by rfl) (by rfl)) ?_; with_reducible rfl)
  (try simp only [Act.put, nA, nB, nC])
  refine wpList_step (fun K hK => ?_)
  go_simp
  (refine (UC.out _ S3.out.cell S3.out.free).mono ?_); rintro e w5 ⟨rfl, hu⟩; have S4 := Lib.hid (S3.out.upd' hu); clear hu S3
  (try dsimp only)
  (try simp only [Act.put, nA, nB, nC])
  refine hK _ _ ?_
  clear hK K
  refine wpList_done (w' := ?_) rfl ?_ ?_
  rotate_left
  · (refine Eq.trans (run_store_row 42 (.tmp 4) (.tmp 18) (by rfl) w.heap.size (by rfl) (by rfl) S4.out.r (iqt.trans rfl)) ?_; with_reducible rfl)
  (try simp only [Act.put, nA, nB, nC])
  refine wpList_nil ?_
  have r1 := S4.out.r.setRow E
  have B1 := S4.out.upd.then' (below_row (Below.refl _ _) (Nat.le_refl w.heap.size) (arrv 4 E))
  rw [← HV.out.2] at B1
  generalize w5.setRow w.heap.size (arrv 4 E) = W6 at *
  go_wp2_with fail
  refine bodyPost_ret (results_cell_row Try.results15 _ _ w.heap.size 42 (arrv 4 E) (0, 0) _ rfl r1 Try.underlying42 rfl (iqt.trans (by rw [arrv_size]))) rfl ⟨by rw [HV.out.1], B1⟩
end Go.Proofs.Ytnnjcdbliaecgaa
