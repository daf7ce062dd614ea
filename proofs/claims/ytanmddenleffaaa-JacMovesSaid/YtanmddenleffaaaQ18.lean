/- Contracts of the program's functions and plain laws, part 18: they hold for all arguments. -/
import Derived.Test.YtanmddenleffaaaQ13
import Derived.Test.YtanmddenleffaaaQ14
import Derived.Test.YtanmddenleffaaaQ16
import Derived.Test.YtanmddenleffaaaQ17
import Derived.Test.YtanmddenleffaaaQ08
import Derived.Test.YtanmddenleffaaaQ03
/- Contract of jac.Of. -/
namespace Go.Proofs.Ytanmddenleffaaa
open Go.RowKit
set_option maxRecDepth 100000
theorem jo_start (c : Addr) (h : Bool) (S I : Nat → Int) (w : World) (hc : w.cell? c = some (.bool h)) (hf : w.frozen? c = false) :
    LsR c h [⟨w.heap.size + 1 + 1, 28, 576, fun _ => 0⟩, ⟨w.heap.size + 1, 33, 8, I⟩, ⟨w.heap.size, 30, 24, S⟩] (w.heap.size + 1 + 1 + 1) w (((w.alloc (.cells (arrv 24 S) 30)).alloc (.cells (arrv 8 I) 33)).alloc (.cells Try.zeroCells28 28)) := by
  rw [zmat]
  simpa using (((ls_nil hc hf).lay 30 24 S).lay 33 8 I).lay 28 576 (fun _ => 0)
theorem jmulV_sb (a b s : Int) : SB (mulV a b s) := by
  unfold mulV; split
  · unfold SB; omega
  · exact satV_bd _
theorem exV_bd (v : Nat → Int) {i : Nat} (hi : i < 4) : -1073741840 ≤ exV v i ∧ exV v i ≤ 1073741840 := by
  unfold exV
  split
  · unfold oneQ; split <;> omega
  · exact (unit_good (exQ v)).1 i hi
theorem keep_q (S : Nat → Int) {i : Nat} (hi : i < 4) : -9007199254740992 ≤ keepF S i ∧ keepF S i ≤ 9007199254740992 := by
  have a := (good_parts (keep_good S)).1 i (by omega)
  rw [boxF_lo hi] at a
  omega
theorem spF_turn (K I : Nat → Int) {i : Nat} (hi : i < 4) : spF K I (7 + i) = exV (spA K I 10 2 (secV (I 1))) i := by
  unfold spF
  rw [show putF _ 11 9 (roV K) (7 + i) = putF (putF (putF (fun i => if i = 0 then secV (I 1) else 0) 1 3 (spA K I 10 2 (secV (I 1)))) 4 3 (spA K I 13 5 (secV (I 1)))) 7 4 (exV (spA K I 10 2 (secV (I 1)))) (7 + i) from by unfold putF; rw [if_neg (by omega)]]
  unfold putF
  rw [if_pos (by omega), show 7 + i - 7 = i by omega]
set_option maxHeartbeats 16000000 in
theorem jof_any (c : Addr) (h : Bool) (S I : Nat → Int) (w : World) (hc : w.cell? c = some (.bool h)) (hf : w.frozen? c = false) :
    Calls Try.prog 9 #[.pointer (some c), .agg (arrv 24 S), .agg (arrv 8 I)] w fun e w' => e = .returned (.agg (arrv 576 (jofF S I))) ∧ Upd c (h || jofH S I) w w' := by
  have L0 := Lib.hid (jo_start c h S I w hc hf)
  clear hc hf
  have TB := Lib.hid (fun (i : Nat) (hi : i < 4) => show -1073741840 ≤ spF (keepF S) I (7 + i) ∧ spF (keepF S) I (7 + i) ≤ 1073741840 by rw [spF_turn _ _ hi]; exact exV_bd _ hi)
  have QB := Lib.hid (fun (i : Nat) (hi : i < 4) => keep_q S hi)
  have SC0 := fun (x : World) (k : x.cell? c = some (.bool h)) (f : x.frozen? c = false) => split_any c h S I x k f
  obtain ⟨Qt, hQt⟩ : ∃ x, keepF S = x := ⟨_, rfl⟩
  obtain ⟨P, hP⟩ : ∃ x, spF (keepF S) I = x := ⟨_, rfl⟩
  obtain ⟨H1, hH1⟩ : ∃ x, (h || keepH S || spH (keepF S) I) = x := ⟨_, rfl⟩
  rw [hP, hH1] at SC0
  rw [hP] at TB
  rw [hQt] at QB
  have SC := Lib.hid SC0
  clear SC0
  have KC0 := fun (x : World) (k : x.cell? c = some (.bool H1)) (f : x.frozen? c = false) => keep_any c H1 S x k f
  obtain ⟨H2, hH2⟩ : ∃ x, (H1 || keepH S) = x := ⟨_, rfl⟩
  rw [hQt, hH2] at KC0
  have KC := Lib.hid KC0
  clear KC0
  have HZ := Lib.hid (show jofF S I = joM P Qt ∧ (h || jofH S I) = (H2 || joH P Qt) by
    unfold jofF jofH; rw [hP, hQt, ← hH2, ← hH1, hQt]; exact ⟨rfl, by simp [Bool.or_assoc]⟩)
  clear hQt hP hH1 hH2
  go_enter Try.func9, Try.ntmps9
  go_upto_region 1 with fail
  generalize ((w.alloc (.cells (arrv 24 S) 30)).alloc (.cells (arrv 8 I) 33)).alloc (.cells Try.zeroCells28 28) = W0 at *
  have S0 := L0.out.e2
  have I0 := L0.out.e1
  refine wp_region_lit ?_
  refine wpList_val (v := ?_) rfl ?_ ?_
  rotate_left
  · (go_simp; (try (first | with_reducible rfl | (constructor <;> with_reducible rfl))))
  (try simp only [Act.put, nA, nB, nC])
  refine wpList_val (v := ?_) rfl ?_ ?_
  rotate_left
  · refine Eq.trans (run_load_row 30 (.tmp 4) (by rfl) (w.heap.size) (by rfl) _ _ _ _ (S0) Try.underlying30 rfl (ist.trans (by rw [arrv_size]))) ?_; with_reducible rfl
  (try simp only [Act.put, nA, nB, nC])
  refine wpList_val (v := ?_) rfl ?_ ?_
  rotate_left
  · (refine Eq.trans (run_load_row 33 (.tmp 5) (by rfl) (w.heap.size + 1) (by rfl) _ _ _ _ I0 Try.underlying33 rfl (iimu.trans (by rw [arrv_size]))) ?_; with_reducible rfl)
  (try simp only [Act.put, nA, nB, nC])
  refine wpList_step (fun K hK => ?_)
  go_simp
  (refine (SC.out _ L0.out.cell L0.out.free).mono ?_); rintro e w1 ⟨rfl, hu⟩; have L1 := Lib.hid (L0.out.upd' hu); clear hu L0 S0 I0 SC
  (try dsimp only)
  (try simp only [Act.put, nA, nB, nC])
  refine hK _ _ ?_
  clear hK K
  refine wpList_act (v := ?_) (w' := ?_) rfl ?_ ?_
  rotate_left 2
  · (go_simp; (try (first | with_reducible rfl | (constructor <;> with_reducible rfl))))
  (try simp only [Act.put, nA, nB, nC])
  refine wpList_done (w' := ?_) rfl ?_ ?_
  rotate_left
  · (refine Eq.trans (run_store_row 64 (.tmp 7) (.tmp 23) (by rfl) (w1.heap.size) (by rfl) (by rfl) (show Blk (w1.alloc (.cells #[.int .i64 0, .int .i64 0, .int .i64 0, .int .i64 0, .int .i64 0, .int .i64 0, .int .i64 0, .int .i64 0, .int .i64 0, .int .i64 0, .int .i64 0, .int .i64 0, .int .i64 0, .int .i64 0, .int .i64 0, .int .i64 0, .int .i64 0, .int .i64 0, .int .i64 0, .int .i64 0] 64)) w1.heap.size 64 20 (fun _ => 0) by rw [zp20]; exact Blk.new _ _ _ _) (iprt.trans rfl)) ?_; with_reducible rfl)
  (try simp only [Act.put, nA, nB, nC])
  refine wpList_nil ?_
  have L2 := Lib.hid (L1.out.put 64 20 (fun _ => 0) P)
  rw [← zp20] at L2
  obtain ⟨pb, hpb⟩ : ∃ x, w1.heap.size = x := ⟨_, rfl⟩
  rw [hpb] at L2 ⊢
  generalize (w1.alloc (.cells #[.int .i64 0, .int .i64 0, .int .i64 0, .int .i64 0, .int .i64 0, .int .i64 0, .int .i64 0, .int .i64 0, .int .i64 0, .int .i64 0, .int .i64 0, .int .i64 0, .int .i64 0, .int .i64 0, .int .i64 0, .int .i64 0, .int .i64 0, .int .i64 0, .int .i64 0, .int .i64 0] 64)).setRow pb (arrv 20 P) = W2 at *
  have q0 : w.heap.size + 1 + 1 < pb := by have := L1.out.le; omega
  clear L1 hpb
  have S2 := L2.out.e3
  go_upto_region 2 with fail
  refine wp_region_lit ?_
  refine wpList_val (v := ?_) rfl ?_ ?_
  rotate_left
  · (go_simp; (try (first | with_reducible rfl | (constructor <;> with_reducible rfl))))
  (try simp only [Act.put, nA, nB, nC])
  refine wpList_val (v := ?_) rfl ?_ ?_
  rotate_left
  · refine Eq.trans (run_load_row 30 (.tmp 4) (by rfl) (w.heap.size) (by rfl) _ _ _ _ (S2) Try.underlying30 rfl (ist.trans (by rw [arrv_size]))) ?_; with_reducible rfl
  (try simp only [Act.put, nA, nB, nC])
  refine wpList_step (fun K hK => ?_)
  go_simp
  (refine (KC.out _ L2.out.cell L2.out.free).mono ?_); rintro e w3 ⟨rfl, hu⟩; have L3 := Lib.hid (L2.out.upd' hu); clear hu L2 S2 KC
  (try dsimp only)
  (try simp only [Act.put, nA, nB, nC])
  refine hK _ _ ?_
  clear hK K
  refine wpList_step (fun K hK => ?_)
  go_simp
  (refine (att_any Qt _).mono ?_); rintro e w4 ⟨rfl, hb⟩; have L4 := Lib.hid (L3.out.down hb); clear hb L3
  (try dsimp only)
  (try simp only [Act.put, nA, nB, nC])
  refine hK _ _ ?_
  clear hK K
  refine wpList_act (v := ?_) (w' := ?_) rfl ?_ ?_
  rotate_left 2
  · (go_simp; (try (first | with_reducible rfl | (constructor <;> with_reducible rfl))))
  (try simp only [Act.put, nA, nB, nC])
  refine wpList_done (w' := ?_) rfl ?_ ?_
  rotate_left
  · (refine Eq.trans (run_store_row 40 (.tmp 8) (.tmp 27) (by rfl) (w4.heap.size) (by rfl) (by rfl) (show Blk (w4.alloc (.cells #[.int .i64 0, .int .i64 0, .int .i64 0, .int .i64 0] 40)) w4.heap.size 40 4 (fun _ => 0) by rw [zq4]; exact Blk.new _ _ _ _) (iqt.trans rfl)) ?_; with_reducible rfl)
  (try simp only [Act.put, nA, nB, nC])
  refine wpList_nil ?_
  have L5 := Lib.hid (L4.out.put 40 4 (fun _ => 0) Qt)
  rw [← zq4] at L5
  obtain ⟨qb, hqb⟩ : ∃ x, w4.heap.size = x := ⟨_, rfl⟩
  rw [hqb] at L5 ⊢
  generalize (w4.alloc (.cells #[.int .i64 0, .int .i64 0, .int .i64 0, .int .i64 0] 40)).setRow qb (arrv 4 Qt) = W5 at *
  have q1 : pb < qb := by have := L4.out.le; omega
  clear L4 hqb
  go_upto_region 3 with fail
  refine wp_region_lit ?_
  refine wpList_step (fun K hK => ?_)
  go_simp
  (refine (one_any _).mono ?_); rintro e w6 ⟨rfl, hb⟩; have L6 := Lib.hid (L5.out.down hb); clear hb L5
  (try dsimp only)
  (try simp only [Act.put, nA, nB, nC])
  refine hK _ _ ?_
  clear hK K
  refine wpList_act (v := ?_) (w' := ?_) rfl ?_ ?_
  rotate_left 2
  · (go_simp; (try (first | with_reducible rfl | (constructor <;> with_reducible rfl))))
  (try simp only [Act.put, nA, nB, nC])
  refine wpList_done (w' := ?_) rfl ?_ ?_
  rotate_left
  · (refine Eq.trans (run_store_row 28 (.tmp 9) (.tmp 28) (by rfl) (w6.heap.size) (by rfl) (by rfl) (show Blk (w6.alloc (.cells Try.zeroCells28 28)) w6.heap.size 28 576 (fun _ => 0) by rw [zmat]; exact Blk.new _ _ _ _) (imat.trans rfl)) ?_; with_reducible rfl)
  (try simp only [Act.put, nA, nB, nC])
  refine wpList_nil ?_
  have L7 := Lib.hid (L6.out.put 28 576 (fun _ => 0) oneF)
  rw [← zmat] at L7
  obtain ⟨fb, hfb⟩ : ∃ x, w6.heap.size = x := ⟨_, rfl⟩
  rw [hfb] at L7 ⊢
  generalize (w6.alloc (.cells Try.zeroCells28 28)).setRow fb (arrv 576 oneF) = W7 at *
  have q2 : qb < fb := by have := L6.out.le; omega
  clear L6 hfb
  have P7 := L7.out.e2
  go_upto_region 4 with fail
  refine wp_region_lit ?_
  refine wpList_val (v := ?_) rfl ?_ ?_
  rotate_left
  · (go_simp; (try (first | with_reducible rfl | (constructor <;> with_reducible rfl))))
  (try simp only [Act.put, nA, nB, nC])
  refine wpList_val (v := ?_) rfl ?_ ?_
  rotate_left
  · (refine Eq.trans (run_load_sub 40 (.tmp 29) (by rfl) pb 7 4 (by rfl) P7 (by decide) _ Try.underlying40 rfl iqt) ?_; with_reducible rfl)
  (try simp only [Act.put, nA, nB, nC])
  refine wpList_act (v := ?_) (w' := ?_) rfl ?_ ?_
  rotate_left 2
  · (go_simp; (try (first | with_reducible rfl | (constructor <;> with_reducible rfl))))
  (try simp only [Act.put, nA, nB, nC])
  refine wpList_done (w' := ?_) rfl ?_ ?_
  rotate_left
  · (refine Eq.trans (run_store_row 40 (.tmp 10) (.tmp 30) (by rfl) (W7.heap.size) (by rfl) (by rfl) (show Blk (W7.alloc (.cells #[.int .i64 0, .int .i64 0, .int .i64 0, .int .i64 0] 40)) W7.heap.size 40 4 (fun _ => 0) by rw [zq4]; exact Blk.new _ _ _ _) (iqt.trans rfl)) ?_; with_reducible rfl)
  (try simp only [Act.put, nA, nB, nC])
  refine wpList_nil ?_
  have L8 := Lib.hid (L7.out.put 40 4 (fun _ => 0) (fun i => P (7 + i)))
  rw [← zq4] at L8
  obtain ⟨db, hdb⟩ : ∃ x, W7.heap.size = x := ⟨_, rfl⟩
  rw [hdb] at L8 ⊢
  generalize (W7.alloc (.cells #[.int .i64 0, .int .i64 0, .int .i64 0, .int .i64 0] 40)).setRow db (arrv 4 (fun i => P (7 + i))) = W8 at *
  have q3 : fb < db := by have := L7.out.le; omega
  clear L7 hdb P7
  obtain ⟨d, hd⟩ : ∃ d : Nat → Int, (fun i => P (7 + i)) = d := ⟨_, rfl⟩
  rw [hd] at L8
  have DB : ∀ i, i < 4 → -1073741840 ≤ d i ∧ d i ≤ 1073741840 := fun i hi => by rw [← hd]; exact TB.out i hi
  have HDD := Lib.hid hd
  clear hd TB
  go_upto_region 5 with fail
  have d0 := L8.out.e0.cell (i := 0) (by decide)
  have d1 := L8.out.e0.cell (i := 1) (by decide)
  have d2 := L8.out.e0.cell (i := 2) (by decide)
  have d3 := L8.out.e0.cell (i := 3) (by decide)
  have b1 := (DB 1 (by decide)).1
  have b2 := (DB 1 (by decide)).2
  have b3 := (DB 2 (by decide)).1
  have b4 := (DB 2 (by decide)).2
  have b5 := (DB 3 (by decide)).1
  have b6 := (DB 3 (by decide)).2
  clear DB
  go_upto_region 6 with fail
  have T9 : (#[.int .i64 (d 0), .int .i64 (-d 1), .int .i64 (-d 2), .int .i64 (-d 3), .int .i64 (d 1), .int .i64 (d 0), .int .i64 (d 3), .int .i64 (-d 2), .int .i64 (d 2), .int .i64 (-d 3), .int .i64 (d 0), .int .i64 (d 1), .int .i64 (d 3), .int .i64 (d 2), .int .i64 (-d 1), .int .i64 (d 0)] : Array Value) = arrv 16 (joT d) := by kernel_rfl
  rw [T9]
  have L9 := Lib.hid (L8.out.lay 68 16 (joT d))
  obtain ⟨tb, htb⟩ : ∃ x, W8.heap.size = x := ⟨_, rfl⟩
  rw [htb] at L9 ⊢
  generalize W8.alloc (.cells (arrv 16 (joT d)) 68) = W9 at *
  have q4 : db < tb := by have := L8.out.le; omega
  clear L8 htb T9 d0 d1 d2 d3 b1 b2 b3 b4 b5 b6
  have d0 := L9.out.e3.cell (i := 0) (by decide)
  have d1 := L9.out.e3.cell (i := 1) (by decide)
  have d2 := L9.out.e3.cell (i := 2) (by decide)
  have d3 := L9.out.e3.cell (i := 3) (by decide)
  have b1 := (QB.out 1 (by decide)).1
  have b2 := (QB.out 1 (by decide)).2
  have b3 := (QB.out 2 (by decide)).1
  have b4 := (QB.out 2 (by decide)).2
  have b5 := (QB.out 3 (by decide)).1
  have b6 := (QB.out 3 (by decide)).2
  clear QB
  go_upto_region 7 with fail
  have T10 : (#[.int .i64 (-Qt 1), .int .i64 (-Qt 2), .int .i64 (-Qt 3), .int .i64 (Qt 0), .int .i64 (-Qt 3), .int .i64 (Qt 2), .int .i64 (Qt 3), .int .i64 (Qt 0), .int .i64 (-Qt 1), .int .i64 (-Qt 2), .int .i64 (Qt 1), .int .i64 (Qt 0)] : Array Value) = arrv 12 (joB Qt) := by kernel_rfl
  rw [T10]
  have L10 := Lib.hid (L9.out.lay 69 12 (joB Qt))
  obtain ⟨bb, hbb⟩ : ∃ x, W9.heap.size = x := ⟨_, rfl⟩
  rw [hbb] at L10 ⊢
  generalize W9.alloc (.cells (arrv 12 (joB Qt)) 69) = W10 at *
  have q5 : tb < bb := by have := L9.out.le; omega
  clear L9 hbb T10 d0 d1 d2 d3 b1 b2 b3 b4 b5 b6
  have p0 := L10.out.e5.cell (i := 0) (by decide)
  obtain ⟨dt, hdt⟩ : ∃ x, P 0 = x := ⟨_, rfl⟩
  rw [hdt] at p0
  have MC := Lib.hid (fun (x : World) (k : x.cell? c = some (.bool H2)) (f : x.frozen? c = false) => fmul_any c H2 dt 536870912 30 x k f)
  obtain ⟨hh, hhh⟩ : ∃ x, mulV dt 536870912 30 = x := ⟨_, rfl⟩
  obtain ⟨H3, hH3⟩ : ∃ x, (H2 || mulH dt 536870912 30) = x := ⟨_, rfl⟩
  rw [hhh, hH3] at MC
  have HT := Lib.hid (And.intro hdt (And.intro hhh hH3))
  clear hdt hhh hH3
  refine wp_region_lit ?_
  refine wpList_val (v := ?_) rfl ?_ ?_
  rotate_left
  · (go_simp; (try (first | with_reducible rfl | (constructor <;> with_reducible rfl))))
  (try simp only [Act.put, nA, nB, nC])
  refine wpList_val (v := ?_) rfl ?_ ?_
  rotate_left
  · (go_simp; (try (first | with_reducible rfl | (constructor <;> with_reducible rfl))))
  (try simp only [Act.put, nA, nB, nC])
  refine wpList_val (v := ?_) rfl ?_ ?_
  rotate_left
  · (go_simp; (try (first | with_reducible rfl | (constructor <;> with_reducible rfl))))
  (try simp only [Act.put, nA, nB, nC])
  refine wpList_step (fun K hK => ?_)
  go_simp
  (refine (MC.out _ L10.out.cell L10.out.free).mono ?_); rintro e w11 ⟨rfl, hu⟩; have L11 := Lib.hid (L10.out.upd' hu); clear hu L10 p0 MC
  (try dsimp only)
  (try simp only [Act.put, nA, nB, nC])
  refine hK _ _ ?_
  clear hK K
  refine wpList_val (v := ?_) rfl ?_ ?_
  rotate_left
  · (go_simp; (try (first | with_reducible rfl | (constructor <;> with_reducible rfl))))
  (try simp only [Act.put, nA, nB, nC])
  refine wpList_nil ?_
  go_upto_region 8 with fail
  have L12 := Lib.hid (show LsR c H3 [⟨fb, 28, 576, joK1 hh d Qt 0 0⟩, ⟨bb, 69, 12, joB Qt⟩, ⟨tb, 68, 16, joT d⟩, ⟨qb, 40, 4, Qt⟩, ⟨pb, 64, 20, P⟩, ⟨w.heap.size + 1 + 1, 28, 576, fun _ => 0⟩] (bb + 1) w w11 from
    (L11.out.sub (E' := [⟨fb, 28, 576, oneF⟩, ⟨bb, 69, 12, joB Qt⟩, ⟨tb, 68, 16, joT d⟩, ⟨qb, 40, 4, Qt⟩, ⟨pb, 64, 20, P⟩, ⟨w.heap.size + 1 + 1, 28, 576, fun _ => 0⟩]) (by simp)).congr rfl fun x _ => by unfold joK1; rw [if_neg (by omega), if_neg (by omega)])
  have FN := Lib.hid (show ∀ e ∈ [(⟨bb, 69, 12, joB Qt⟩ : Lx), ⟨tb, 68, 16, joT d⟩, ⟨qb, 40, 4, Qt⟩, ⟨pb, 64, 20, P⟩, ⟨w.heap.size + 1 + 1, 28, 576, fun _ => 0⟩], e.b ≠ fb by simp; omega)
  clear L11
  go_wp2_with fail
  go_loopw [113] (fun v wr => ∃ r : Nat, r ≤ 4 ∧ v = .int .i64 r ∧ Hid (LsR c (H3 || orB (fun r => orB (fun k => mulH hh (joB Qt (r * 3 + k)) 30) 3) r) [⟨fb, 28, 576, joK1 hh d Qt r 0⟩, ⟨bb, 69, 12, joB Qt⟩, ⟨tb, 68, 16, joT d⟩, ⟨qb, 40, 4, Qt⟩, ⟨pb, 64, 20, P⟩, ⟨w.heap.size + 1 + 1, 28, 576, fun _ => 0⟩] (bb + 1) w wr)) (fun v _ => 4 - (intOf v).toNat)
  case atStart => exact ⟨0, by omega, rfl, by rw [show (H3 || orB (fun r => orB (fun k => mulH hh (joB Qt (r * 3 + k)) 30) 3) 0) = H3 from by simp [orB]]; exact L12⟩
  case round =>
    obtain ⟨r, hr, rfl, R⟩ := hrel
    clear L12
    by_cases hlt : r < 4
    · have c1 : decide ((r : Int) < 4) = true := by simp; omega
      have r0 : (0 : Int) ≤ (r : Int) := Int.natCast_nonneg _
      have r1 : (r : Int) < 4 := by omega
      have r2 : (r : Int) < 24 := by omega
      have r3 : IntKind.i64.wrap (r : Int) = (r : Int) := IntWalk.i64_in _ (by omega)
      obtain ⟨F, hF⟩ : ∃ x, joK1 hh d Qt r 0 = x := ⟨_, rfl⟩
      obtain ⟨H4, hH4⟩ : ∃ x, (H3 || orB (fun r => orB (fun k => mulH hh (joB Qt (r * 3 + k)) 30) 3) r) = x := ⟨_, rfl⟩
      rw [hF, hH4] at R
      have HR := Lib.hid (And.intro hF hH4)
      clear hF hH4
      go_upto_region 11 with fail
      have RD := Lib.hid R.out.drew
      clear R
      refine wp_region_M (fun _ => True) 7 (by kernel_rfl) ?_ (fun hHeld => ?_)
      · trivial
      refine wpAnyM_takeW 0 (v := ?_) rfl (by kernel_rfl) (fun _ _ _ h => h) (Or.inl ⟨by rfl, ?_⟩) (.inr (by assumption)) ?_
      rotate_left
      · (intro wx hSw; (try dsimp only at hSw); go_simp; (try with_reducible rfl))
      (try simp only [Act.put, nA, nB, nC])
      refine wpAnyM_takeW 1 (v := ?_) rfl (by kernel_rfl) (fun _ _ _ h => h) (Or.inl ⟨by rfl, ?_⟩) (.inr (by assumption)) ?_
      rotate_left
      · (intro wx hSw; (try dsimp only at hSw); go_simp; (try with_reducible rfl))
      (try simp only [Act.put, nA, nB, nC])
      refine wpAnyM_takeW 2 (v := ?_) rfl (by kernel_rfl) (fun _ _ _ h => h) (Or.inl ⟨by rfl, ?_⟩) (.inr (by assumption)) ?_
      rotate_left
      · (intro wx hSw; (try dsimp only at hSw); go_simp; (try with_reducible rfl))
      (try simp only [Act.put, nA, nB, nC])
      refine wpAnyM_take 3 (v := ?_) rfl (by kernel_rfl) (fun _ _ _ h => h) (Or.inl ⟨by rfl, ?_⟩) (by assumption) ?_
      rotate_left
      · (intro wx hSw; refine Eq.trans (run_slice_c0 (.tmp 118) (by rfl) (by rfl) fb (r * 24) (by rfl)) ?_; with_reducible rfl)
      (try simp only [Act.put, nA, nB, nC])
      refine wpAnyM_takeW 4 (v := ?_) rfl (by kernel_rfl) (fun _ _ _ h => h) (Or.inl ⟨by rfl, ?_⟩) (.inr (by assumption)) ?_
      rotate_left
      · (intro wx hSw; (try dsimp only at hSw); go_simp; (try with_reducible rfl))
      (try simp only [Act.put, nA, nB, nC])
      refine wpAnyM_takeW 5 (v := ?_) rfl (by kernel_rfl) (fun _ _ _ h => h) (Or.inl ⟨by rfl, ?_⟩) (.inr (by assumption)) ?_
      rotate_left
      · (intro wx hSw; (try dsimp only at hSw); go_simp; (try with_reducible rfl))
      (try simp only [Act.put, nA, nB, nC])
      refine wpAnyM_take 6 (v := ?_) rfl (by kernel_rfl) (fun _ _ _ h => h) (Or.inl ⟨by rfl, ?_⟩) (by assumption) ?_
      rotate_left
      · (intro wx hSw; refine Eq.trans (run_slice_f4 (.tmp 121) (by rfl) tb (r * 4) (by rfl)) ?_; with_reducible rfl)
      (try simp only [Act.put, nA, nB, nC])
      refine wpAnyM_one 7 rfl (by kernel_rfl) (fun K hK => ?_)
      refine step_copy_nums rfl (.tmp 119) (.tmp 122) rfl fb (r * 24) 24 24 (by rfl) tb (r * 4) 4 4 (by rfl) (by decide) _ 576 F RD.out.e0 _ 16 (joT d) RD.out.e2 (by omega) (by omega) ?_; rw [show ((4 : Nat) : Int) = 4 from rfl]
      refine hK.out _ _ (.inl (by kernel_rfl)) (fun _ => ?_)
      clear hK K
      (try simp only [Act.put, nA, nB, nC])
      refine wpAnyM_done (by kernel_rfl) ?_ _
      have L13 := Lib.hid ((RD.out.row FN.out (putF F (r * 24) 4 (fun i => joT d (r * 4 + i)))).congr (G := joK1 hh d Qt r (1 + 0)) rfl fun x _ => by rw [← HR.out.1]; exact joK1_copy hh d Qt hlt x)
      generalize wr.drew.setRow fb (arrv 576 (putF F (r * 24) 4 (fun i => joT d (r * 4 + i)))) = W13 at *
      clear RD
      have B13 := L13.out.e1
      go_upto_region 12 with fail
      refine wp_region_lit ?_
      refine wpList_val (v := ?_) rfl ?_ ?_
      rotate_left
      · (go_simp; (try (first | with_reducible rfl | (constructor <;> with_reducible rfl))))
      (try simp only [Act.put, nA, nB, nC])
      refine wpList_val (v := ?_) rfl ?_ ?_
      rotate_left
      · (go_simp; (try (first | with_reducible rfl | (constructor <;> with_reducible rfl))))
      (try simp only [Act.put, nA, nB, nC])
      refine wpList_val (v := ?_) rfl ?_ ?_
      rotate_left
      · (refine Eq.trans (run_load_sub 31 (.tmp 125) (by rfl) bb (r * 3) 3 (by rfl) B13 (by omega) _ Try.underlying31 rfl ia3) ?_; with_reducible rfl)
      (try simp only [Act.put, nA, nB, nC])
      refine wpList_val (v := ?_) rfl ?_ ?_
      rotate_left
      · (go_simp; (try (first | with_reducible rfl | (constructor <;> with_reducible rfl))))
      (try simp only [Act.put, nA, nB, nC])
      refine wpList_nil ?_
      obtain ⟨V, hV⟩ : ∃ V : Nat → Int, (fun i => joB Qt (r * 3 + i)) = V := ⟨_, rfl⟩
      rw [hV]
      have HV := Lib.hid (fun k => show joB Qt (r * 3 + k) = V k by rw [← hV])
      clear hV B13
      go_wp2_with fail
      go_loopw [127] (fun v wr => ∃ k : Nat, k ≤ 3 ∧ v = .int .i64 k ∧ Hid (LsR c (H4 || orB (fun k => mulH hh (joB Qt (r * 3 + k)) 30) k) [⟨fb, 28, 576, joK1 hh d Qt r (1 + k)⟩, ⟨bb, 69, 12, joB Qt⟩, ⟨tb, 68, 16, joT d⟩, ⟨qb, 40, 4, Qt⟩, ⟨pb, 64, 20, P⟩, ⟨w.heap.size + 1 + 1, 28, 576, fun _ => 0⟩] (bb + 1) w wr)) (fun v _ => 3 - (intOf v).toNat)
      case atStart => exact ⟨0, by omega, rfl, by rw [show (H4 || orB (fun k => mulH hh (joB Qt (r * 3 + k)) 30) 0) = H4 from by simp [orB]]; exact L13⟩
      case round =>
        obtain ⟨k, hk, rfl, M⟩ := hrel
        clear L13
        by_cases hk3 : k < 3
        · have c2 : decide ((k : Int) < 3) = true := by simp; omega
          have k0 : (0 : Int) ≤ (k : Int) := Int.natCast_nonneg _
          have k1 : (k : Int) < 3 := by omega
          have k2 : IntKind.i64.wrap (10 + (k : Int)) = 10 + (k : Int) := IntWalk.i64_in _ (by omega)
          have k4 : 0 ≤ 10 + (k : Int) := by omega
          have k5 : 10 + (k : Int) < 24 := by omega
          have k6 : (10 + (k : Int)).toNat = 10 + k := by omega
          obtain ⟨G, hG⟩ : ∃ x, joK1 hh d Qt r (1 + k) = x := ⟨_, rfl⟩
          obtain ⟨H5, hH5⟩ : ∃ x, (H4 || orB (fun k => mulH hh (joB Qt (r * 3 + k)) 30) k) = x := ⟨_, rfl⟩
          rw [hG, hH5] at M
          obtain ⟨v, hv⟩ : ∃ v, V k = v := ⟨_, rfl⟩
          obtain ⟨m, hm⟩ : ∃ m, mulV hh v 30 = m := ⟨_, rfl⟩
          have HM := Lib.hid (And.intro hG (And.intro hH5 (And.intro ((HV.out k).trans hv) hm)))
          have sm : SB m := by rw [← hm]; exact jmulV_sb _ _ _
          have ng : IntKind.i64.wrap (-m) = -m := sneg sm
          have MC := Lib.hid (fun (x : World) (k : x.cell? c = some (.bool H5)) (f : x.frozen? c = false) => fmul_any c H5 hh v 30 x k f)
          rw [hm] at MC
          clear hG hH5 sm hm
          go_upto_region 14 with fail
          refine wp_region_lit ?_
          refine wpList_val (v := ?_) rfl ?_ ?_
          rotate_left
          · (go_simp; (try (first | with_reducible rfl | (constructor <;> with_reducible rfl))))
          (try simp only [Act.put, nA, nB, nC])
          refine wpList_val (v := ?_) rfl ?_ ?_
          rotate_left
          · (refine Eq.trans (run_index_a3 (.tmp 126) (.tmp 127) (by rfl) (by rfl) k (by rfl) hk3) ?_; rw [hv])
          (try simp only [Act.put, nA, nB, nC])
          refine wpList_val (v := ?_) rfl ?_ ?_
          rotate_left
          · (go_simp; (try (first | with_reducible rfl | (constructor <;> with_reducible rfl))))
          (try simp only [Act.put, nA, nB, nC])
          refine wpList_val (v := ?_) rfl ?_ ?_
          rotate_left
          · (go_simp; (try (first | with_reducible rfl | (constructor <;> with_reducible rfl))))
          (try simp only [Act.put, nA, nB, nC])
          refine wpList_nil ?_
          clear hv
          go_upto_region 15 with fail
          have MD := Lib.hid M.out.drew
          clear M
          refine wp_region_M (fun _ => True) 11 (by kernel_rfl) ?_ (fun hHeld => ?_)
          · trivial
          refine wpAnyM_take 0 (v := ?_) rfl (by kernel_rfl) (fun _ _ _ h => h) (Or.inl ⟨by rfl, ?_⟩) (by assumption) ?_
          rotate_left
          · (intro wx hSw; (try dsimp only at hSw); go_simp; (try with_reducible rfl))
          (try simp only [Act.put, nA, nB, nC])
          refine wpAnyM_take 1 (v := ?_) rfl (by kernel_rfl) (fun _ _ _ h => h) (Or.inl ⟨by rfl, ?_⟩) (by assumption) ?_
          rotate_left
          · (intro wx hSw; (try dsimp only at hSw); go_simp; (try with_reducible rfl))
          (try simp only [Act.put, nA, nB, nC])
          refine wpAnyM_take 2 (v := ?_) rfl (by kernel_rfl) (fun _ _ _ h => h) (Or.inl ⟨by rfl, ?_⟩) (by assumption) ?_
          rotate_left
          · (intro wx hSw; (try dsimp only at hSw); go_simp; (try with_reducible rfl))
          (try simp only [Act.put, nA, nB, nC])
          refine wpAnyM_take 3 (v := ?_) rfl (by kernel_rfl) (fun _ _ _ h => h) (Or.inl ⟨by rfl, ?_⟩) (by assumption) ?_
          rotate_left
          · (intro wx hSw; (try dsimp only at hSw); go_simp; (try with_reducible rfl))
          (try simp only [Act.put, nA, nB, nC])
          refine wpAnyM_take 4 (v := ?_) rfl (by kernel_rfl) (fun _ _ _ h => h) (Or.inl ⟨by rfl, ?_⟩) (by assumption) ?_
          rotate_left
          · (intro wx hSw; (try dsimp only at hSw); go_simp; (try with_reducible rfl))
          (try simp only [Act.put, nA, nB, nC])
          refine wpAnyM_take 5 (v := ?_) rfl (by kernel_rfl) (fun _ _ _ h => h) (Or.inl ⟨by rfl, ?_⟩) (by assumption) ?_
          rotate_left
          · (intro wx hSw; (try dsimp only at hSw); go_simp; (try with_reducible rfl))
          (try simp only [Act.put, nA, nB, nC])
          refine wpAnyM_take 6 (v := ?_) rfl (by kernel_rfl) (fun _ _ _ h => h) (Or.inl ⟨by rfl, ?_⟩) (by assumption) ?_
          rotate_left
          · (intro wx hSw; (try dsimp only at hSw); go_simp; (try with_reducible rfl))
          (try simp only [Act.put, nA, nB, nC])
          refine wpAnyM_takeW 9 (v := ?_) rfl (by kernel_rfl) (fun _ _ _ h => h) (Or.inl ⟨by rfl, ?_⟩) (.inr (by assumption)) ?_
          rotate_left
          · (intro wx hSw; (try dsimp only at hSw); go_simp; (try with_reducible rfl))
          (try simp only [Act.put, nA, nB, nC])
          refine wpAnyM_oneS 7 rfl (by kernel_rfl) (fun K hK => ?_)
          go_simp
          (refine (MC.out _ MD.out.cell MD.out.free).mono ?_); rintro e w14 ⟨rfl, hu⟩; have M14 := Lib.hid (MD.out.upd' hu); clear hu MD MC; have xf := M14.out.e0.free (r * 24 + (10 + k)); have xc := M14.out.e0.cell (i := r * 24 + (10 + k)) (by omega)
          (try dsimp only)
          (try simp only [Act.put, nA, nB, nC])
          clear hHeld
          refine hK.out _ _ ?_ (fun hHeld => ?_)
          · trivial
          clear hK K
          (try simp only [Act.put, nA, nB, nC])
          refine wpAnyM_take 8 (v := ?_) rfl (by kernel_rfl) (fun _ _ _ h => h) (Or.inl ⟨by rfl, ?_⟩) (by assumption) ?_
          rotate_left
          · (intro wx hSw; (try dsimp only at hSw); go_simp; (try rw [ng]); (try with_reducible rfl))
          (try simp only [Act.put, nA, nB, nC])
          refine wpAnyM_take 10 (v := ?_) rfl (by kernel_rfl) (fun _ _ _ h => h) (Or.inl ⟨by rfl, ?_⟩) (by assumption) ?_
          rotate_left
          · (intro wx hSw; (try dsimp only at hSw); go_simp; (try with_reducible rfl))
          (try simp only [Act.put, nA, nB, nC])
          refine wpAnyM_one 11 rfl (by kernel_rfl) (fun K hK => ?_)
          go_simp
          refine hK.out _ _ (.inl (by kernel_rfl)) (fun _ => ?_)
          clear hK K
          (try simp only [Act.put, nA, nB, nC])
          refine wpAnyM_done (by kernel_rfl) ?_ _
          go_wp2_with fail
          go_roundw
          case rel =>
            refine ⟨k + 1, by omega, by go_num, Lib.hid ((M14.out.set FN.out (r * 24 + (10 + k)) (-m)).congr (G := joK1 hh d Qt r (1 + (k + 1))) ?_ fun x _ => ?_)⟩
            · rw [← HM.out.2.1, ← HM.out.2.2.1]; simp [orB, Bool.or_assoc]
            · rw [← HM.out.1, ← HM.out.2.2.2, ← HM.out.2.2.1]; exact joK1_next hh d Qt hlt hk3 x
          case measure => simp [intOf]; omega
        · have hk4 : k = 3 := by omega
          subst hk4
          rw [show ((3 : Nat) : Int) = 3 from rfl]
          have M6 := Lib.hid M.out
          clear M hk hk3
          go_wp2_with fail
          go_roundw
          case rel =>
            refine ⟨r + 1, by omega, by go_num, Lib.hid (M6.out.congr (G := joK1 hh d Qt (r + 1) 0) ?_ fun x _ => joK1_row hh d Qt r x)⟩
            rw [← HR.out.2]; simp [orB, Bool.or_assoc]
          case measure => simp [intOf]; omega
    · have hr4 : r = 4 := by omega
      subst hr4
      rw [show ((4 : Nat) : Int) = 4 from rfl]
      obtain ⟨H6, hH6⟩ : ∃ x, (H3 || orB (fun r => orB (fun k => mulH hh (joB Qt (r * 3 + k)) 30) 3) 4) = x := ⟨_, rfl⟩
      rw [hH6] at R
      have H6' := Lib.hid hH6
      have R6 := Lib.hid R.out
      clear R hr hlt hH6
      have Q6 := R6.out.e3
      have P6 := R6.out.e4
      have TC := Lib.hid (fun (x : World) (k : x.cell? c = some (.bool H6)) (f : x.frozen? c = false) => jturned_any c H6 Qt (fun i => P (4 + i)) x k f)
      obtain ⟨TU, hTU⟩ : ∃ x, tuF Qt (fun i => P (4 + i)) = x := ⟨_, rfl⟩
      obtain ⟨H7, hH7⟩ : ∃ x, (H6 || tuH Qt (fun i => P (4 + i))) = x := ⟨_, rfl⟩
      rw [hTU, hH7] at TC
      have HTU := Lib.hid (And.intro hTU hH7)
      clear hTU hH7
      go_upto_region 18 with fail
      refine wp_region_lit ?_
      refine wpList_val (v := ?_) rfl ?_ ?_
      rotate_left
      · (go_simp; (try (first | with_reducible rfl | (constructor <;> with_reducible rfl))))
      (try simp only [Act.put, nA, nB, nC])
      refine wpList_val (v := ?_) rfl ?_ ?_
      rotate_left
      · (refine Eq.trans (run_load_row 40 (.tmp 8) (by rfl) qb (by rfl) _ _ _ _ Q6 Try.underlying40 rfl (iqt.trans (by rw [arrv_size]))) ?_; with_reducible rfl)
      (try simp only [Act.put, nA, nB, nC])
      refine wpList_val (v := ?_) rfl ?_ ?_
      rotate_left
      · (go_simp; (try (first | with_reducible rfl | (constructor <;> with_reducible rfl))))
      (try simp only [Act.put, nA, nB, nC])
      refine wpList_val (v := ?_) rfl ?_ ?_
      rotate_left
      · (refine Eq.trans (run_load_sub 41 (.tmp 146) (by rfl) pb 4 3 (by rfl) P6 (by decide) _ Try.underlying41 rfl iv3) ?_; with_reducible rfl)
      (try simp only [Act.put, nA, nB, nC])
      refine wpList_step (fun K hK => ?_)
      go_simp
      (refine (TC.out _ R6.out.cell R6.out.free).mono ?_); rintro e w15 ⟨rfl, hu⟩; have L15 := Lib.hid (R6.out.upd' hu); clear hu R6 Q6 P6 TC
      (try dsimp only)
      (try simp only [Act.put, nA, nB, nC])
      refine hK _ _ ?_
      clear hK K
      refine wpList_act (v := ?_) (w' := ?_) rfl ?_ ?_
      rotate_left 2
      · (go_simp; (try (first | with_reducible rfl | (constructor <;> with_reducible rfl))))
      (try simp only [Act.put, nA, nB, nC])
      refine wpList_done (w' := ?_) rfl ?_ ?_
      rotate_left
      · (refine Eq.trans (run_store_row 47 (.tmp 17) (.tmp 148) (by rfl) (w15.heap.size) (by rfl) (by rfl) (show Blk (w15.alloc (.cells #[.int .i64 0, .int .i64 0, .int .i64 0, .int .i64 0, .int .i64 0, .int .i64 0, .int .i64 0, .int .i64 0, .int .i64 0, .int .i64 0, .int .i64 0, .int .i64 0] 47)) w15.heap.size 47 12 (fun _ => 0) by rw [zt34]; exact Blk.new _ _ _ _) (it34.trans rfl)) ?_; with_reducible rfl)
      (try simp only [Act.put, nA, nB, nC])
      refine wpList_nil ?_
      have L16 := Lib.hid (L15.out.put 47 12 (fun _ => 0) TU)
      rw [← zt34] at L16
      obtain ⟨ub, hub⟩ : ∃ x, w15.heap.size = x := ⟨_, rfl⟩
      rw [hub] at L16 ⊢
      generalize (w15.alloc (.cells #[.int .i64 0, .int .i64 0, .int .i64 0, .int .i64 0, .int .i64 0, .int .i64 0, .int .i64 0, .int .i64 0, .int .i64 0, .int .i64 0, .int .i64 0, .int .i64 0] 47)).setRow ub (arrv 12 TU) = W16 at *
      have q6 : bb < ub := by have := L15.out.le; omega
      clear L15 hub
      obtain ⟨B1, hB1⟩ : ∃ x, joK1 hh d Qt 4 0 = x := ⟨_, rfl⟩
      rw [hB1] at L16
      have HBH := Lib.hid (fun x (hx : 4 ≤ x / 24) => show B1 x = oneF x by rw [← hB1]; exact joK1_high hh d Qt hx)
      have HB1 := Lib.hid hB1
      clear hB1
      obtain ⟨RR, hRR⟩ : ∃ R : Nat → Int, (fun i => P (11 + i)) = R := ⟨_, rfl⟩
      have HRR := Lib.hid hRR
      have HRk := Lib.hid (fun i => show P (11 + i) = RR i by rw [← hRR])
      clear hRR
      have L17 := Lib.hid (show LsR c H7 [⟨fb, 28, 576, joK2 B1 TU RR dt 0 0⟩, ⟨ub, 47, 12, TU⟩, ⟨pb, 64, 20, P⟩, ⟨w.heap.size + 1 + 1, 28, 576, fun _ => 0⟩] (ub + 1) w W16 from
        (L16.out.sub (E' := [⟨fb, 28, 576, B1⟩, ⟨ub, 47, 12, TU⟩, ⟨pb, 64, 20, P⟩, ⟨w.heap.size + 1 + 1, 28, 576, fun _ => 0⟩]) (by simp)).congr rfl fun x _ => by unfold joK2; rw [if_neg (by omega), if_neg (by omega), if_neg (by omega)])
      have FN2 := Lib.hid (show ∀ e ∈ [(⟨ub, 47, 12, TU⟩ : Lx), ⟨pb, 64, 20, P⟩, ⟨w.heap.size + 1 + 1, 28, 576, fun _ => 0⟩], e.b ≠ fb by simp; omega)
      clear L16
      have HP0 := Lib.hid HT.out.1
      go_wp2_with fail
      go_loopw [149] (fun v wr => ∃ r : Nat, r ≤ 3 ∧ v = .int .i64 r ∧ Hid (LsR c (H7 || orB (fun r => orB (fun k => mulH (RR (r * 3 + k)) dt 30) 3) r) [⟨fb, 28, 576, joK2 B1 TU RR dt r 0⟩, ⟨ub, 47, 12, TU⟩, ⟨pb, 64, 20, P⟩, ⟨w.heap.size + 1 + 1, 28, 576, fun _ => 0⟩] (ub + 1) w wr)) (fun v _ => 3 - (intOf v).toNat)
      case atStart => exact ⟨0, by omega, rfl, by rw [show (H7 || orB (fun r => orB (fun k => mulH (RR (r * 3 + k)) dt 30) 3) 0) = H7 from by simp [orB]]; exact L17⟩
      case round =>
        obtain ⟨r, hr, rfl, R⟩ := hrel
        clear L17
        by_cases hlt : r < 3
        · have c1 : decide ((r : Int) < 3) = true := by simp; omega
          have r0 : (0 : Int) ≤ (r : Int) := Int.natCast_nonneg _
          have r1 : (r : Int) < 3 := by omega
          have r3 : IntKind.i64.wrap (4 + (r : Int)) = 4 + (r : Int) := IntWalk.i64_in _ (by omega)
          have r4 : 0 ≤ 4 + (r : Int) := by omega
          have r5 : 4 + (r : Int) < 24 := by omega
          have r6 : (4 + (r : Int)).toNat = 4 + r := by omega
          obtain ⟨F, hF⟩ : ∃ x, joK2 B1 TU RR dt r 0 = x := ⟨_, rfl⟩
          obtain ⟨H8, hH8⟩ : ∃ x, (H7 || orB (fun r => orB (fun k => mulH (RR (r * 3 + k)) dt 30) 3) r) = x := ⟨_, rfl⟩
          rw [hF, hH8] at R
          have HR := Lib.hid (And.intro hF hH8)
          clear hF hH8
          go_upto_region 22 with fail
          have RD := Lib.hid R.out.drew
          clear R
          refine wp_region_M (fun _ => True) 7 (by kernel_rfl) ?_ (fun hHeld => ?_)
          · trivial
          refine wpAnyM_takeW 0 (v := ?_) rfl (by kernel_rfl) (fun _ _ _ h => h) (Or.inl ⟨by rfl, ?_⟩) (.inr (by assumption)) ?_
          rotate_left
          · (intro wx hSw; (try dsimp only at hSw); go_simp; (try with_reducible rfl))
          (try simp only [Act.put, nA, nB, nC])
          refine wpAnyM_takeW 1 (v := ?_) rfl (by kernel_rfl) (fun _ _ _ h => h) (Or.inl ⟨by rfl, ?_⟩) (.inr (by assumption)) ?_
          rotate_left
          · (intro wx hSw; (try dsimp only at hSw); go_simp; (try with_reducible rfl))
          (try simp only [Act.put, nA, nB, nC])
          refine wpAnyM_takeW 2 (v := ?_) rfl (by kernel_rfl) (fun _ _ _ h => h) (Or.inl ⟨by rfl, ?_⟩) (.inr (by assumption)) ?_
          rotate_left
          · (intro wx hSw; (try dsimp only at hSw); go_simp; (try with_reducible rfl))
          (try simp only [Act.put, nA, nB, nC])
          refine wpAnyM_take 3 (v := ?_) rfl (by kernel_rfl) (fun _ _ _ h => h) (Or.inl ⟨by rfl, ?_⟩) (by assumption) ?_
          rotate_left
          · (intro wx hSw; refine Eq.trans (run_slice_c0 (.tmp 154) (by rfl) (by rfl) fb ((4 + r) * 24) (by rfl)) ?_; with_reducible rfl)
          (try simp only [Act.put, nA, nB, nC])
          refine wpAnyM_takeW 4 (v := ?_) rfl (by kernel_rfl) (fun _ _ _ h => h) (Or.inl ⟨by rfl, ?_⟩) (.inr (by assumption)) ?_
          rotate_left
          · (intro wx hSw; (try dsimp only at hSw); go_simp; (try with_reducible rfl))
          (try simp only [Act.put, nA, nB, nC])
          refine wpAnyM_takeW 5 (v := ?_) rfl (by kernel_rfl) (fun _ _ _ h => h) (Or.inl ⟨by rfl, ?_⟩) (.inr (by assumption)) ?_
          rotate_left
          · (intro wx hSw; (try dsimp only at hSw); go_simp; (try with_reducible rfl))
          (try simp only [Act.put, nA, nB, nC])
          refine wpAnyM_take 6 (v := ?_) rfl (by kernel_rfl) (fun _ _ _ h => h) (Or.inl ⟨by rfl, ?_⟩) (by assumption) ?_
          rotate_left
          · (intro wx hSw; refine Eq.trans (run_slice_f4 (.tmp 157) (by rfl) ub (r * 4) (by rfl)) ?_; with_reducible rfl)
          (try simp only [Act.put, nA, nB, nC])
          refine wpAnyM_one 7 rfl (by kernel_rfl) (fun K hK => ?_)
          refine step_copy_nums rfl (.tmp 155) (.tmp 158) rfl fb ((4 + r) * 24) 24 24 (by rfl) ub (r * 4) 4 4 (by rfl) (by decide) _ 576 F RD.out.e0 _ 12 TU RD.out.e1 (by omega) (by omega) ?_; rw [show ((4 : Nat) : Int) = 4 from rfl]
          refine hK.out _ _ (.inl (by kernel_rfl)) (fun _ => ?_)
          clear hK K
          (try simp only [Act.put, nA, nB, nC])
          refine wpAnyM_done (by kernel_rfl) ?_ _
          have L18 := Lib.hid ((RD.out.row FN2.out (putF F ((4 + r) * 24) 4 (fun i => TU (r * 4 + i)))).congr (G := joK2 B1 TU RR dt r (1 + 0)) rfl fun x _ => by rw [← HR.out.1]; exact joK2_copy B1 TU RR dt hlt x)
          generalize wr.drew.setRow fb (arrv 576 (putF F ((4 + r) * 24) 4 (fun i => TU (r * 4 + i)))) = W18 at *
          clear RD
          go_wp2_with fail
          go_loopw [160] (fun v wr => ∃ k : Nat, k ≤ 3 ∧ v = .int .i64 k ∧ Hid (LsR c (H8 || orB (fun k => mulH (RR (r * 3 + k)) dt 30) k) [⟨fb, 28, 576, joK2 B1 TU RR dt r (1 + k)⟩, ⟨ub, 47, 12, TU⟩, ⟨pb, 64, 20, P⟩, ⟨w.heap.size + 1 + 1, 28, 576, fun _ => 0⟩] (ub + 1) w wr)) (fun v _ => 3 - (intOf v).toNat)
          case atStart => exact ⟨0, by omega, rfl, by rw [show (H8 || orB (fun k => mulH (RR (r * 3 + k)) dt 30) 0) = H8 from by simp [orB]]; exact L18⟩
          case round =>
            obtain ⟨k, hk, rfl, M⟩ := hrel
            clear L18
            by_cases hk3 : k < 3
            · have c2 : decide ((k : Int) < 3) = true := by simp; omega
              have k0 : (0 : Int) ≤ (k : Int) := Int.natCast_nonneg _
              have k1 : (k : Int) < 3 := by omega
              have k2 : IntKind.i64.wrap (13 + (k : Int)) = 13 + (k : Int) := IntWalk.i64_in _ (by omega)
              have k4 : 0 ≤ 13 + (k : Int) := by omega
              have k5 : 13 + (k : Int) < 24 := by omega
              have k6 : (13 + (k : Int)).toNat = 13 + k := by omega
              have z1 : IntKind.i64.wrap (3 * (r : Int)) = 3 * (r : Int) := IntWalk.i64_in _ (by omega)
              have z2 : IntKind.i64.wrap (3 * (r : Int) + (k : Int)) = 3 * (r : Int) + (k : Int) := IntWalk.i64_in _ (by omega)
              have z3 : 0 ≤ 3 * (r : Int) + (k : Int) := by omega
              have z4 : 3 * (r : Int) + (k : Int) < 9 := by omega
              have z5 : (3 * (r : Int) + (k : Int)).toNat = r * 3 + k := by omega
              obtain ⟨G, hG⟩ : ∃ x, joK2 B1 TU RR dt r (1 + k) = x := ⟨_, rfl⟩
              obtain ⟨H9, hH9⟩ : ∃ x, (H8 || orB (fun k => mulH (RR (r * 3 + k)) dt 30) k) = x := ⟨_, rfl⟩
              rw [hG, hH9] at M
              obtain ⟨v, hv⟩ : ∃ v, RR (r * 3 + k) = v := ⟨_, rfl⟩
              obtain ⟨m, hm⟩ : ∃ m, mulV v dt 30 = m := ⟨_, rfl⟩
              have HV := Lib.hid ((HRk.out (r * 3 + k)).trans hv)
              have HM := Lib.hid (And.intro hG (And.intro hH9 (And.intro hv hm)))
              have sm : SB m := by rw [← hm]; exact jmulV_sb _ _ _
              have ng : IntKind.i64.wrap (-m) = -m := sneg sm
              have MC := Lib.hid (fun (x : World) (k : x.cell? c = some (.bool H9)) (f : x.frozen? c = false) => fmul_any c H9 v dt 30 x k f)
              rw [hm] at MC
              clear hG hH9 sm hm hv
              go_upto_region 26 with fail
              have MD := Lib.hid M.out.drew
              clear M
              refine wp_region_M (fun w' => w'.cell? ⟨pb, 11 + (r * 3 + k), none⟩ = some (.int .i64 v) ∧ w'.cell? ⟨pb, 0, none⟩ = some (.int .i64 dt)) 18 (by kernel_rfl) ?_ (fun hHeld => ?_)
              · exact ⟨by rw [← HV.out]; exact MD.out.e2.cell (by omega), by rw [← HP0.out]; exact MD.out.e2.cell (by decide)⟩
              refine wpAnyM_take 0 (v := ?_) rfl (by kernel_rfl) (fun _ _ _ h => h) (Or.inl ⟨by rfl, ?_⟩) (by assumption) ?_
              rotate_left
              · (intro wx hSw; (try dsimp only at hSw); go_simp; (try with_reducible rfl))
              (try simp only [Act.put, nA, nB, nC])
              refine wpAnyM_take 1 (v := ?_) rfl (by kernel_rfl) (fun _ _ _ h => h) (Or.inl ⟨by rfl, ?_⟩) (by assumption) ?_
              rotate_left
              · (intro wx hSw; (try dsimp only at hSw); go_simp; (try with_reducible rfl))
              (try simp only [Act.put, nA, nB, nC])
              refine wpAnyM_take 2 (v := ?_) rfl (by kernel_rfl) (fun _ _ _ h => h) (Or.inl ⟨by rfl, ?_⟩) (by assumption) ?_
              rotate_left
              · (intro wx hSw; (try dsimp only at hSw); go_simp; (try with_reducible rfl))
              (try simp only [Act.put, nA, nB, nC])
              refine wpAnyM_take 3 (v := ?_) rfl (by kernel_rfl) (fun _ _ _ h => h) (Or.inl ⟨by rfl, ?_⟩) (by assumption) ?_
              rotate_left
              · (intro wx hSw; (try dsimp only at hSw); go_simp; (try with_reducible rfl))
              (try simp only [Act.put, nA, nB, nC])
              refine wpAnyM_take 4 (v := ?_) rfl (by kernel_rfl) (fun _ _ _ h => h) (Or.inl ⟨by rfl, ?_⟩) (by assumption) ?_
              rotate_left
              · (intro wx hSw; (try dsimp only at hSw); go_simp; (try with_reducible rfl))
              (try simp only [Act.put, nA, nB, nC])
              refine wpAnyM_take 5 (v := ?_) rfl (by kernel_rfl) (fun _ _ _ h => h) (Or.inl ⟨by rfl, ?_⟩) (by assumption) ?_
              rotate_left
              · (intro wx hSw; (try dsimp only at hSw); go_simp; (try with_reducible rfl))
              (try simp only [Act.put, nA, nB, nC])
              refine wpAnyM_take 6 (v := ?_) rfl (by kernel_rfl) (fun _ _ _ h => h) (Or.inl ⟨by rfl, ?_⟩) (by assumption) ?_
              rotate_left
              · (intro wx hSw; (try dsimp only at hSw); go_simp; (try with_reducible rfl))
              (try simp only [Act.put, nA, nB, nC])
              refine wpAnyM_take 7 (v := ?_) rfl (by kernel_rfl) (fun _ _ _ h => h) (Or.inl ⟨by rfl, ?_⟩) (by assumption) ?_
              rotate_left
              · (intro wx hSw; (try dsimp only at hSw); go_simp; (try with_reducible rfl))
              (try simp only [Act.put, nA, nB, nC])
              refine wpAnyM_take 8 (v := ?_) rfl (by kernel_rfl) (fun _ _ _ h => h) (Or.inl ⟨by rfl, ?_⟩) (by assumption) ?_
              rotate_left
              · (intro wx hSw; (try dsimp only at hSw); go_simp; (try with_reducible rfl))
              (try simp only [Act.put, nA, nB, nC])
              refine wpAnyM_take 9 (v := ?_) rfl (by kernel_rfl) (fun _ _ _ h => h) (Or.inl ⟨by rfl, ?_⟩) (by assumption) ?_
              rotate_left
              · (intro wx hSw; (try dsimp only at hSw); go_simp; (try with_reducible rfl))
              (try simp only [Act.put, nA, nB, nC])
              refine wpAnyM_take 10 (v := ?_) rfl (by kernel_rfl) (fun _ _ _ h => h) (Or.inl ⟨by rfl, ?_⟩) (by assumption) ?_
              rotate_left
              · (intro wx hSw; (try dsimp only at hSw); go_simp; (try with_reducible rfl))
              (try simp only [Act.put, nA, nB, nC])
              refine wpAnyM_take 11 (v := ?_) rfl (by kernel_rfl) (fun _ _ _ h => h) (Or.inl ⟨by rfl, ?_⟩) (by assumption) ?_
              rotate_left
              · (intro wx hSw; (try dsimp only at hSw); go_simp; (try with_reducible rfl))
              (try simp only [Act.put, nA, nB, nC])
              refine wpAnyM_take 12 (v := ?_) rfl (by kernel_rfl) (fun _ _ _ h => h) (Or.inl ⟨by rfl, ?_⟩) (by assumption) ?_
              rotate_left
              · (intro wx hSw; (try dsimp only at hSw); go_simp; (try with_reducible rfl))
              (try simp only [Act.put, nA, nB, nC])
              refine wpAnyM_take 13 (v := ?_) rfl (by kernel_rfl) (fun _ _ _ h => h) (Or.inl ⟨by rfl, ?_⟩) (by assumption) ?_
              rotate_left
              · (intro wx hSw; (try dsimp only at hSw); go_simp; (try with_reducible rfl))
              (try simp only [Act.put, nA, nB, nC])
              refine wpAnyM_takeW 16 (v := ?_) rfl (by kernel_rfl) (fun _ _ _ h => h) (Or.inl ⟨by rfl, ?_⟩) (.inr (by assumption)) ?_
              rotate_left
              · (intro wx hSw; (try dsimp only at hSw); go_simp; (try with_reducible rfl))
              (try simp only [Act.put, nA, nB, nC])
              refine wpAnyM_oneS 14 rfl (by kernel_rfl) (fun K hK => ?_)
              go_simp
              (refine (MC.out _ MD.out.cell MD.out.free).mono ?_); rintro e w14 ⟨rfl, hu⟩; have M14 := Lib.hid (MD.out.upd' hu); clear hu MD MC; have xf := M14.out.e0.free ((4 + r) * 24 + (13 + k)); have xc := M14.out.e0.cell (i := (4 + r) * 24 + (13 + k)) (by omega)
              (try dsimp only)
              (try simp only [Act.put, nA, nB, nC])
              clear hHeld
              refine hK.out _ _ ?_ (fun hHeld => ?_)
              · exact ⟨by rw [← HV.out]; exact M14.out.e2.cell (by omega), by rw [← HP0.out]; exact M14.out.e2.cell (by decide)⟩
              clear hK K
              (try simp only [Act.put, nA, nB, nC])
              refine wpAnyM_take 15 (v := ?_) rfl (by kernel_rfl) (fun _ _ _ h => h) (Or.inl ⟨by rfl, ?_⟩) (by assumption) ?_
              rotate_left
              · (intro wx hSw; (try dsimp only at hSw); go_simp; (try rw [ng]); (try with_reducible rfl))
              (try simp only [Act.put, nA, nB, nC])
              refine wpAnyM_take 17 (v := ?_) rfl (by kernel_rfl) (fun _ _ _ h => h) (Or.inl ⟨by rfl, ?_⟩) (by assumption) ?_
              rotate_left
              · (intro wx hSw; (try dsimp only at hSw); go_simp; (try with_reducible rfl))
              (try simp only [Act.put, nA, nB, nC])
              refine wpAnyM_one 18 rfl (by kernel_rfl) (fun K hK => ?_)
              go_simp
              refine hK.out _ _ (.inl (by kernel_rfl)) (fun _ => ?_)
              clear hK K
              (try simp only [Act.put, nA, nB, nC])
              refine wpAnyM_done (by kernel_rfl) ?_ _
              go_wp2_with fail
              go_roundw
              case rel =>
                refine ⟨k + 1, by omega, by go_num, Lib.hid ((M14.out.set FN2.out ((4 + r) * 24 + (13 + k)) (-m)).congr (G := joK2 B1 TU RR dt r (1 + (k + 1))) ?_ fun x _ => ?_)⟩
                · rw [← HM.out.2.1, ← HM.out.2.2.1]; simp [orB, Bool.or_assoc]
                · rw [← HM.out.1, ← HM.out.2.2.2, ← HM.out.2.2.1]; exact joK2_next B1 TU RR dt hlt hk3 x
              case measure => simp [intOf]; omega
            · have hk4 : k = 3 := by omega
              subst hk4
              rw [show ((3 : Nat) : Int) = 3 from rfl]
              have M6 := Lib.hid M.out
              clear M hk hk3
              have y1 : IntKind.i64.wrap (7 + (r : Int)) = 7 + (r : Int) := IntWalk.i64_in _ (by omega)
              have y2 : 0 ≤ 7 + (r : Int) := by omega
              have y3 : 7 + (r : Int) < 24 := by omega
              have y4 : (7 + (r : Int)).toNat = 7 + r := by omega
              have y5 : IntKind.i64.wrap ((r : Int) + 4) = (r : Int) + 4 := IntWalk.i64_in _ (by omega)
              go_upto_region 28 with fail
              have MD := Lib.hid M6.out.drew
              clear M6
              have xf := MD.out.e0.free ((7 + r) * 24 + (4 + r))
              have xc := MD.out.e0.cell (i := (7 + r) * 24 + (4 + r)) (by omega)
              refine wp_region_M (fun w' => w'.cell? ⟨pb, 0, none⟩ = some (.int .i64 dt)) 8 (by kernel_rfl) ?_ (fun hHeld => ?_)
              · (rw [← HP0.out]; exact MD.out.e2.cell (by decide))
              refine wpAnyM_take 0 (v := ?_) rfl (by kernel_rfl) (fun _ _ _ h => h) (Or.inl ⟨by rfl, ?_⟩) (by assumption) ?_
              rotate_left
              · (intro wx hSw; (try dsimp only at hSw); go_simp; (try with_reducible rfl))
              (try simp only [Act.put, nA, nB, nC])
              refine wpAnyM_take 1 (v := ?_) rfl (by kernel_rfl) (fun _ _ _ h => h) (Or.inl ⟨by rfl, ?_⟩) (by assumption) ?_
              rotate_left
              · (intro wx hSw; (try dsimp only at hSw); go_simp; (try with_reducible rfl))
              (try simp only [Act.put, nA, nB, nC])
              refine wpAnyM_take 2 (v := ?_) rfl (by kernel_rfl) (fun _ _ _ h => h) (Or.inl ⟨by rfl, ?_⟩) (by assumption) ?_
              rotate_left
              · (intro wx hSw; (try dsimp only at hSw); go_simp; (try with_reducible rfl))
              (try simp only [Act.put, nA, nB, nC])
              refine wpAnyM_take 3 (v := ?_) rfl (by kernel_rfl) (fun _ _ _ h => h) (Or.inl ⟨by rfl, ?_⟩) (by assumption) ?_
              rotate_left
              · (intro wx hSw; (try dsimp only at hSw); go_simp; (try with_reducible rfl))
              (try simp only [Act.put, nA, nB, nC])
              refine wpAnyM_take 4 (v := ?_) rfl (by kernel_rfl) (fun _ _ _ h => h) (Or.inl ⟨by rfl, ?_⟩) (by assumption) ?_
              rotate_left
              · (intro wx hSw; (try dsimp only at hSw); go_simp; (try with_reducible rfl))
              (try simp only [Act.put, nA, nB, nC])
              refine wpAnyM_take 5 (v := ?_) rfl (by kernel_rfl) (fun _ _ _ h => h) (Or.inl ⟨by rfl, ?_⟩) (by assumption) ?_
              rotate_left
              · (intro wx hSw; (try dsimp only at hSw); go_simp; (try with_reducible rfl))
              (try simp only [Act.put, nA, nB, nC])
              refine wpAnyM_takeW 6 (v := ?_) rfl (by kernel_rfl) (fun _ _ _ h => h) (Or.inl ⟨by rfl, ?_⟩) (.inr (by assumption)) ?_
              rotate_left
              · (intro wx hSw; (try dsimp only at hSw); go_simp; (try with_reducible rfl))
              (try simp only [Act.put, nA, nB, nC])
              refine wpAnyM_take 7 (v := ?_) rfl (by kernel_rfl) (fun _ _ _ h => h) (Or.inl ⟨by rfl, ?_⟩) (by assumption) ?_
              rotate_left
              · (intro wx hSw; (try dsimp only at hSw); go_simp; (try with_reducible rfl))
              (try simp only [Act.put, nA, nB, nC])
              refine wpAnyM_one 8 rfl (by kernel_rfl) (fun K hK => ?_)
              go_simp
              refine hK.out _ _ (.inl (by kernel_rfl)) (fun _ => ?_)
              clear hK K
              (try simp only [Act.put, nA, nB, nC])
              refine wpAnyM_done (by kernel_rfl) ?_ _
              go_wp2_with fail
              go_roundw
              case rel =>
                refine ⟨r + 1, by omega, by go_num, Lib.hid ((MD.out.set FN2.out ((7 + r) * 24 + (4 + r)) dt).congr (G := joK2 B1 TU RR dt (r + 1) 0) ?_ fun x _ => joK2_row B1 TU RR dt hlt HBH.out x)⟩
                rw [← HR.out.2]; simp [orB, Bool.or_assoc]
              case measure => simp [intOf]; omega
        · have hr3 : r = 3 := by omega
          subst hr3
          rw [show ((3 : Nat) : Int) = 3 from rfl]
          have R7 := Lib.hid R.out
          clear R hr hlt
          have O7 := R7.out.e0
          have P7 := R7.out.e3
          obtain ⟨G, hG⟩ : ∃ x, joK2 B1 TU RR dt 3 0 = x := ⟨_, rfl⟩
          rw [hG] at O7 R7
          have HG := Lib.hid hG
          clear hG
          go_upto_region 30 with fail
          refine wp_region_lit ?_
          refine wpList_val (v := ?_) rfl ?_ ?_
          rotate_left
          · (refine Eq.trans (run_load_row 28 (.tmp 9) (by rfl) fb (by rfl) _ _ _ _ O7 Try.underlying28 rfl (imat.trans (by rw [arrv_size]))) ?_; with_reducible rfl)
          (try simp only [Act.put, nA, nB, nC])
          refine wpList_done (w' := ?_) rfl ?_ ?_
          rotate_left
          · (refine Eq.trans (run_store_row 28 (.tmp 6) (.tmp 191) (by rfl) (w.heap.size + 1 + 1) (by rfl) (by rfl) P7 (imat.trans rfl)) ?_; with_reducible rfl)
          (try simp only [Act.put, nA, nB, nC])
          refine wpList_nil ?_
          have r1 := P7.setRow G
          have U1 := R7.out.upd.then' (below_row (Below.refl _ _) (show w.heap.size ≤ w.heap.size + 1 + 1 by omega) (arrv 576 G))
          generalize wr.setRow (w.heap.size + 1 + 1) (arrv 576 G) = W19 at *
          go_wp2_with fail
          refine bodyPost_ret (results_cell_row Try.results9 _ _ (w.heap.size + 1 + 1) 28 (arrv 576 G) (0, 0) _ rfl r1 Try.underlying28 rfl (imat.trans (by rw [arrv_size]))) rfl ⟨?_, ?_⟩
          · rw [HZ.out.1, arrv_congr (g := joM P Qt) fun x _ => ?_]
            rw [← HG.out, ← joM_eq P Qt x, ← HB1.out, ← HTU.out.1, ← HRR.out, HT.out.1, HT.out.2.1, HDD.out]
          · rw [HZ.out.2]
            unfold joH
            have e1 : (H2 || (mulH (P 0) 536870912 30 || orB (fun r => orB (joB1 P Qt r) 3) 4 || tuH Qt (fun i => P (4 + i)) || orB (fun r => orB (joB2 P r) 3) 3)) = (H7 || orB (fun r => orB (fun k => mulH (RR (r * 3 + k)) dt 30) 3) 3) := by
              rw [← HTU.out.2, ← H6'.out, ← HT.out.2.2, ← HRR.out, ← HT.out.2.1, ← HT.out.1]
              simp only [Bool.or_assoc]
              rfl
            rw [e1]; exact U1
end Go.Proofs.Ytanmddenleffaaa
/- Stores in a region that draws its order, by their runs: the walk's goal is never looked into. -/
namespace Go.Proofs.Ytanmddenleffaaa
open Go.RowKit
open Go in
/-- The last operation that changes the world (a store), by its run: the walk's goal is never looked into. -/
theorem wpAnyM_doneL {P : Program} {ops : Array Oper} {Q : Exit → Act → World → Prop} {md : Region.Mode} {L : Nat} {S : World → Prop} (i : Nat) {o : Oper} {fuel : Nat} {listed : Array Bool} {a : Act} {w w' : World} (ho : ops.toList[i]? = some o) (hr : Region.ready md ops listed = [i])
    (hw : Region.wanted o (yielded ops a.tmps) = true) (hl : (listed.setIfInBounds i true).getD L false = true) (hy : (execOp a.eval o).run P w = .ok .skip w') (h : wpAnyM P md ops Q S L fuel (listed.setIfInBounds i true) (a.put o.dst undef) w') :
    wpAnyM P md ops Q S L (fuel + 1) listed a w :=
  wpAnyM_one i ho hr fun K hK => by
    rw [if_pos hw]
    exact wp_of_run hy (hK.out _ _ (.inl hl) fun _ => h)
end Go.Proofs.Ytanmddenleffaaa
