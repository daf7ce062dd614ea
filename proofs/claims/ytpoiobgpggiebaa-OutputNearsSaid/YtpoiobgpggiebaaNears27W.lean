/- The walk of OutputNears. -/
import Derived.Test.YtpoiobgpggiebaaNr27
namespace Go.Proofs.Ytpoiobgpggiebaa
open Go.RowKit
open Go
set_option maxRecDepth 100000
/-- A flag, and blocks of the call's own below it. -/
structure F0R (bc : Nat) (h : Bool) (E : List Lx) (w wr : World) : Prop where
  below : Below w.heap.size w wr
  fc : wr.cell? ⟨bc, 0, none⟩ = some (.bool h)
  ff : wr.frozen? ⟨bc, 0, none⟩ = false
  lb : w.heap.size ≤ bc
  ex : ∀ e, e ∈ E → Blk wr e.b e.T e.n e.F ∧ w.heap.size ≤ e.b ∧ e.b < bc
section
variable {bc : Nat} {h h' : Bool} {E : List Lx} {w wr w' w1 w2 : World}
theorem F0R.down (s : F0R bc h E w wr) (k : Below wr.heap.size wr w') : F0R bc h E w w' := by
  have hl := World.block_lt_of_cell? _ _ s.fc
  exact ⟨s.below.trans (k.mono s.below.size), (k.cell (p := ⟨bc, 0, none⟩) hl).trans s.fc, (k.frozen (p := ⟨bc, 0, none⟩) hl).trans s.ff, s.lb, fun e he => ⟨(s.ex e he).1.below k, (s.ex e he).2⟩⟩
theorem F0R.upd (s : F0R bc h E w wr) (u : Upd ⟨bc, 0, none⟩ h' wr w') : F0R bc h' E w w' := by
  have hl := World.block_lt_of_cell? _ _ s.fc
  exact ⟨s.below.trans ⟨u.os, u.tape, u.output, u.size, fun k hk => u.block (by have := s.below.size; omega) (by have := s.lb; simp only; omega)⟩, u.cellc s.fc, (u.frozen hl).trans s.ff, s.lb, fun e he => ⟨(s.ex e he).1.upd u (by have := (s.ex e he).2.2; simp only; omega), (s.ex e he).2⟩⟩
theorem F0R.row {b T m : Nat} {F : Nat → Int} (s : F0R bc h (⟨b, T, m, F⟩ :: E) w wr) (hn : ∀ e, e ∈ E → e.b ≠ b) (G : Nat → Int) : F0R bc h (⟨b, T, m, G⟩ :: E) w (wr.setRow b (arrv m G)) := by
  have h0 := s.ex _ (.head _)
  have hb : w.heap.size ≤ b := h0.2.1
  have hb2 : b < bc := h0.2.2
  refine ⟨below_row s.below hb _, by rw [(ls_row_other _ (by show bc ≠ b; omega)).1]; exact s.fc, by rw [(ls_row_other _ (by show bc ≠ b; omega)).2]; exact s.ff, s.lb, fun e he => ?_⟩
  rcases List.mem_cons.1 he with rfl | he
  · exact ⟨h0.1.setRow G, h0.2⟩
  · have := s.ex e (.tail _ he)
    exact ⟨this.1.setRow_other _ (hn e he), this.2⟩
theorem F0R.sub {E' : List Lx} (s : F0R bc h E w wr) (hs : ∀ e, e ∈ E' → e ∈ E) : F0R bc h E' w wr := ⟨s.below, s.fc, s.ff, s.lb, fun e he => s.ex e (hs e he)⟩
theorem F0R.e0 {b T m : Nat} {F : Nat → Int} (s : F0R bc h (⟨b, T, m, F⟩ :: E) w wr) : Blk wr b T m F := (s.ex _ (.head _)).1
theorem F0R.e1 {a : Lx} {b T m : Nat} {F : Nat → Int} (s : F0R bc h (a :: ⟨b, T, m, F⟩ :: E) w wr) : Blk wr b T m F := (s.ex _ (.tail _ (.head _))).1
theorem f0_new (b : Below w.heap.size w wr) (hE : ∀ e, e ∈ E → Blk wr e.b e.T e.n e.F ∧ w.heap.size ≤ e.b) : F0R wr.heap.size false E w (wr.alloc (.cells #[.bool false] 29)) := by
  have f := Flg.new wr false
  exact ⟨b.alloc b.size _, f.cell, f.free, b.size, fun e he => ⟨(hE e he).1.alloc _, (hE e he).2, (hE e he).1.lt⟩⟩
theorem fi_of_f0 {z g : Int} {S : Nat → Int} {n pb m : Nat} {L : Nat → Nat → Int} {v : Value} (s : F0R bc h E w w1) (f : FilR z g S n pb m L v w1 w2) : FiR bc h pb z g v (m + 1) L E [] w w2 := by
  have hl := World.block_lt_of_cell? _ _ s.fc
  have hp := f.lp
  have hz := s.below.size
  refine ⟨s.below.trans (f.below.mono hz), (f.below.cell (p := ⟨bc, 0, none⟩) hl).trans s.fc, (f.below.frozen (p := ⟨bc, 0, none⟩) hl).trans s.ff, f.pd, by simp only at hl; omega, fun k hk => by have := f.lv k hk; simp only at hl; omega, s.lb, by omega, fun k hk => by have := f.lv k hk; omega, fun e he => ?_, fun e he => by cases he⟩
  have h1 := s.ex e he
  refine ⟨h1.1.below f.below, h1.2.1, by omega, by simp only at hl; omega, fun hv => by have := f.lv _ hv; simp only at hl; omega⟩
end
set_option maxHeartbeats 32000000 in
theorem nears27_walk (g : Int) (S T : Nat → Int) (n : Int) (w : World) :
    Calls Try.prog 8 #[.int .i64 g, .agg (arrv 24 S), .agg (arrv 24 T), .int .i64 n] w fun e w' => e = .returned (.bool true) ∧ Below w.heap.size w w' := by
  have L0 := Lib.hid (show BsR [⟨w.heap.size + 1, 32, 24, T⟩, ⟨w.heap.size, 32, 24, S⟩] (w.heap.size + 1 + 1) w ((w.alloc (.cells (arrv 24 S) 32)).alloc (.cells (arrv 24 T) 32)) by
    have := ((bs_nil w).lay 32 24 S).lay 32 24 T
    simpa using this)
  go_enter Try.func8, Try.ntmps8
  go_upto_region 3 with (go_at_call 9; (refine (awake27_any _).mono ?_); rintro e w1 ⟨rfl, hb1⟩)
  have L1 := Lib.hid (L0.out.down hb1)
  clear hb1 L0
  by_cases h0 : g < 1
  · have e0 : decide (g < 1) = true := by simpa using h0
    clear h0
    go_wp2_with fail
    go_ret
    exact ⟨rfl, L1.out.below⟩
  have e0 : decide (g < 1) = false := by simpa using h0
  by_cases h1 : 1073741824 < g
  · have e1 : decide (1073741824 < g) = true := by simpa using h1
    clear h1
    go_wp2_with fail
    go_ret
    exact ⟨rfl, L1.out.below⟩
  have e1 : decide (1073741824 < g) = false := by simpa using h1
  by_cases h2 : n < 0
  · have e2 : decide (n < 0) = true := by simpa using h2
    clear h2
    go_wp2_with fail
    go_ret
    exact ⟨rfl, L1.out.below⟩
  have e2 : decide (n < 0) = false := by simpa using h2
  by_cases h3 : 12 < n
  · have e3 : decide (12 < n) = true := by simpa using h3
    clear h3
    go_wp2_with fail
    go_ret
    exact ⟨rfl, L1.out.below⟩
  have e3 : decide (12 < n) = false := by simpa using h3
  have HG := Lib.hid (show 1 ≤ g ∧ g ≤ 1073741824 from ⟨by omega, by omega⟩)
  obtain ⟨N, hN⟩ : ∃ N : Nat, n = (N : Int) := ⟨n.toNat, by omega⟩
  subst hN
  have hN12 : (N : Int) ≤ 12 := by omega
  go_upto_region 5 with fail
  clear h0 h1 h2 h3 e0 e1 e2 e3
  have S0 := Lib.hid (f0_new L1.out.below (E := [⟨w.heap.size, 32, 24, S⟩, ⟨w.heap.size + 1, 32, 24, T⟩]) (fun e he => by
    have hm : e ∈ [(⟨w.heap.size + 1, 32, 24, T⟩ : Lx), ⟨w.heap.size, 32, 24, S⟩] := by simp at he ⊢; rcases he with h | h; exact .inr h; exact .inl h
    exact ⟨(L1.out.ex e hm).1, (L1.out.ex e hm).2.1⟩))
  clear L1
  go_upto_region 6 with fail
  generalize w1.alloc (.cells #[.bool false] 29) = W0 at *
  obtain ⟨bc, hbc⟩ : ∃ x, w1.heap.size = x := ⟨_, rfl⟩
  rw [hbc] at S0 ⊢
  clear hbc
  have P0 := S0.out.e0
  refine wp_region_lit ?_
  refine wpList_val (v := ?_) rfl ?_ ?_
  rotate_left
  · (go_simp; (try (first | with_reducible rfl | (constructor <;> with_reducible rfl))))
  (try simp only [Act.put, nA, nB, nC])
  refine wpList_val (v := ?_) rfl ?_ ?_
  rotate_left
  · refine Eq.trans (run_load_row 32 (.tmp 5) (by rfl) (w.heap.size) (by rfl) _ _ _ _ (P0) Try.underlying32 rfl (ist.trans (by rw [arrv_size]))) ?_; with_reducible rfl
  (try simp only [Act.put, nA, nB, nC])
  refine wpList_step (fun K hK => ?_)
  go_simp
  (refine (keep_any ⟨bc, 0, none⟩ false S _ S0.out.fc S0.out.ff).mono ?_); rintro e w2 ⟨rfl, hu⟩; have S1 := Lib.hid (S0.out.upd hu); clear hu S0 P0; have P1 := S1.out.e0
  (try dsimp only)
  (try simp only [Act.put, nA, nB, nC])
  refine hK _ _ ?_
  clear hK K
  refine wpList_done (w' := ?_) rfl ?_ ?_
  rotate_left
  · refine Eq.trans (run_store_row 32 (.tmp 5) (.tmp 41) (by rfl) (w.heap.size) (by rfl) (by rfl) (P1) (ist.trans rfl)) ?_; with_reducible rfl
  (try simp only [Act.put, nA, nB, nC])
  refine wpList_nil ?_
  have S2 := Lib.hid ((S1.out.row (by simp) (keepF S)).sub (E' := [⟨w.heap.size + 1, 32, 24, T⟩, ⟨w.heap.size, 32, 24, keepF S⟩]) (by simp))
  generalize w2.setRow w.heap.size (arrv 24 (keepF S)) = W2 at *
  clear S1 P1
  have P0 := S2.out.e0
  go_upto_region 7 with fail
  refine wp_region_lit ?_
  refine wpList_val (v := ?_) rfl ?_ ?_
  rotate_left
  · (go_simp; (try (first | with_reducible rfl | (constructor <;> with_reducible rfl))))
  (try simp only [Act.put, nA, nB, nC])
  refine wpList_val (v := ?_) rfl ?_ ?_
  rotate_left
  · refine Eq.trans (run_load_row 32 (.tmp 6) (by rfl) (w.heap.size + 1) (by rfl) _ _ _ _ (P0) Try.underlying32 rfl (ist.trans (by rw [arrv_size]))) ?_; with_reducible rfl
  (try simp only [Act.put, nA, nB, nC])
  refine wpList_step (fun K hK => ?_)
  go_simp
  (refine (keep_any ⟨bc, 0, none⟩ _ T _ S2.out.fc S2.out.ff).mono ?_); rintro e w3 ⟨rfl, hu⟩; have S3 := Lib.hid (S2.out.upd hu); clear hu S2 P0; have P1 := S3.out.e0
  (try dsimp only)
  (try simp only [Act.put, nA, nB, nC])
  refine hK _ _ ?_
  clear hK K
  refine wpList_done (w' := ?_) rfl ?_ ?_
  rotate_left
  · refine Eq.trans (run_store_row 32 (.tmp 6) (.tmp 44) (by rfl) (w.heap.size + 1) (by rfl) (by rfl) (P1) (ist.trans rfl)) ?_; with_reducible rfl
  (try simp only [Act.put, nA, nB, nC])
  refine wpList_nil ?_
  have S4 := Lib.hid (S3.out.row (by simp) (keepF T))
  generalize w3.setRow (w.heap.size + 1) (arrv 24 (keepF T)) = W3 at *
  clear S3 P1
  obtain ⟨H0, hH0⟩ : ∃ x, (false || keepH S || keepH T) = x := ⟨_, rfl⟩
  rw [hH0] at S4
  clear hH0
  have P0 := S4.out.e1
  obtain ⟨KS, hKS⟩ : ∃ x, keepF S = x := ⟨_, rfl⟩
  rw [hKS] at S4 P0 ⊢
  clear hKS
  go_upto_region 8 with fail
  refine wp_region_lit ?_
  refine wpList_val (v := ?_) rfl ?_ ?_
  rotate_left
  · (go_simp; (try (first | with_reducible rfl | (constructor <;> with_reducible rfl))))
  (try simp only [Act.put, nA, nB, nC])
  refine wpList_val (v := ?_) rfl ?_ ?_
  rotate_left
  · refine Eq.trans (run_load_row 32 (.tmp 5) (by rfl) (w.heap.size) (by rfl) _ _ _ _ (P0) Try.underlying32 rfl (ist.trans (by rw [arrv_size]))) ?_; with_reducible rfl
  (try simp only [Act.put, nA, nB, nC])
  refine wpList_step (fun K hK => ?_)
  go_simp
  (refine (fill_ok 1 g KS none 0 0 (fun _ => 0) _ (by decide) (by decide) HG.out.1 HG.out.2 (by decide) (fun i hi => by omega)).mono ?_); rintro e w4 ⟨pb, m, L, v, rfl, hf⟩; have F0 := Lib.hid hf; clear hf
  (try dsimp only)
  (try simp only [Act.put, nA, nB, nC])
  refine hK _ _ ?_
  clear hK K
  refine wpList_val (v := ?_) rfl ?_ ?_
  rotate_left
  · (go_simp; (try (first | with_reducible rfl | (constructor <;> with_reducible rfl))))
  (try simp only [Act.put, nA, nB, nC])
  refine wpList_nil ?_
  have hm0 := (F0.out.non rfl).1
  subst hm0
  have S5 := Lib.hid ((fi_of_f0 S4.out F0.out).sub (E' := [⟨w.heap.size + 1, 32, 24, keepF T⟩]) (S' := []) (by simp) (by simp))
  have HL := Lib.hid (show ∃ S', L 0 = ofF S' 0 from ⟨_, (F0.out.non rfl).2⟩)
  clear F0 S4 P0
  go_upto_region 12 with fail
  go_loopw [11] (fun i wr => ∃ (k : Nat) (h : Bool) (L : Nat → Nat → Int), k ≤ N ∧ i = .int .i64 k ∧ Hid (FiR bc h pb 1 g v 1 L [⟨w.heap.size + 1, 32, 24, keepF T⟩] [] w wr ∧ ∃ S', L 0 = ofF S' 0)) (fun i _ => N - (intOf i).toNat)
  case atStart => exact ⟨0, H0, L, Nat.zero_le _, by go_num, Lib.hid ⟨S5.out, HL.out⟩⟩
  case round =>
    obtain ⟨k, h, L, hk, rfl, R⟩ := hrel
    clear S5 HL
    have k0 : (0 : Int) ≤ (k : Int) := Int.natCast_nonneg _
    by_cases hlt : k < N
    · have d1 : decide (k < N) = true := by simpa using hlt
      have d2 : decide ((k : Int) < (N : Int)) = true := by simpa using hlt
      have k1 : (k : Int) < (N : Int) := by omega
      obtain ⟨S', hS'⟩ := R.out.2
      have R0 := Lib.hid R.out.1
      clear R
      have HO := Lib.hid hS'
      have hat : lastK L 0 1 = ((0 : Nat) : Int) := by unfold lastK; rw [if_pos (by rw [hS']; exact Int.le_refl _)]
      have HA := Lib.hid hat
      clear hS' hat
      go_upto_region 14 with fail
      refine wp_region_lit ?_
      refine wpList_val (v := ?_) rfl ?_ ?_
      rotate_left
      · (go_simp; (try (first | with_reducible rfl | (constructor <;> with_reducible rfl))))
      (try simp only [Act.put, nA, nB, nC])
      refine wpList_step (fun K hK => ?_)
      go_simp
      (refine (now_some pb 1 g 0 L v _ R0.out.pd (by decide)).mono ?_); rintro e w5 ⟨rfl, hb⟩; have R1 := Lib.hid (R0.out.down hb); clear hb R0; have NN := Lib.hid (R1.out.putO (L 0))
      (try dsimp only)
      (try simp only [Act.put, nA, nB, nC])
      refine hK _ _ ?_
      clear hK K
      refine wpList_val (v := ?_) rfl ?_ ?_
      rotate_left
      · (go_simp; (try (first | with_reducible rfl | (constructor <;> with_reducible rfl))))
      (try simp only [Act.put, nA, nB, nC])
      refine wpList_val (v := ?_) rfl ?_ ?_
      rotate_left
      · (go_simp; (try (first | with_reducible rfl | (constructor <;> with_reducible rfl))))
      (try simp only [Act.put, nA, nB, nC])
      refine wpList_val (v := ?_) rfl ?_ ?_
      rotate_left
      · (go_simp; (try (first | with_reducible rfl | (constructor <;> with_reducible rfl))))
      (try simp only [Act.put, nA, nB, nC])
      refine wpList_act (v := ?_) (w' := ?_) rfl ?_ ?_
      rotate_left 2
      · (go_simp; (try (first | with_reducible rfl | (constructor <;> with_reducible rfl))))
      (try simp only [Act.put, nA, nB, nC])
      refine wpList_done (w' := ?_) rfl ?_ ?_
      rotate_left
      · (refine Eq.trans (run_store_row 49 (.tmp 12) (.tmp 58) (by rfl) (w5.heap.size) (by rfl) (by rfl) NN.out.1 (iou.trans rfl)) ?_; with_reducible rfl)
      (try simp only [Act.put, nA, nB, nC])
      refine wpList_val (v := ?_) rfl ?_ ?_
      rotate_left
      · (go_simp; (try (first | with_reducible rfl | (constructor <;> with_reducible rfl))))
      (try simp only [Act.put, nA, nB, nC])
      refine wpList_nil ?_
      have R2 := Lib.hid (NN.out.2.sub (E' := [⟨w.heap.size + 1, 32, 24, keepF T⟩, ⟨w5.heap.size, 49, 11, L 0⟩]) (S' := []) (by simp) (by simp))
      generalize (w5.alloc (.cells #[.int .i64 0, .int .i64 0, .int .i64 0, .int .i64 0, .int .i64 0, .int .i64 0, .int .i64 0, .int .i64 0, .int .i64 0, .int .i64 0, .int .i64 0] 49)).setRow w5.heap.size (arrv 11 (L 0)) = W5 at *
      clear NN R1
      obtain ⟨b12, hb12⟩ : ∃ x, w5.heap.size = x := ⟨_, rfl⟩
      rw [hb12] at R2 ⊢
      clear hb12
      have P0 := R2.out.e0
      go_upto_region 15 with fail
      refine wp_region_lit ?_
      refine wpList_val (v := ?_) rfl ?_ ?_
      rotate_left
      · (go_simp; (try (first | with_reducible rfl | (constructor <;> with_reducible rfl))))
      (try simp only [Act.put, nA, nB, nC])
      refine wpList_val (v := ?_) rfl ?_ ?_
      rotate_left
      · (go_simp; (try (first | with_reducible rfl | (constructor <;> with_reducible rfl))))
      (try simp only [Act.put, nA, nB, nC])
      refine wpList_val (v := ?_) rfl ?_ ?_
      rotate_left
      · refine Eq.trans (run_load_row 32 (.tmp 6) (by rfl) (w.heap.size + 1) (by rfl) _ _ _ _ (P0) Try.underlying32 rfl (ist.trans (by rw [arrv_size]))) ?_; with_reducible rfl
      (try simp only [Act.put, nA, nB, nC])
      refine wpList_step (fun K hK => ?_)
      go_simp
      (refine (corr_ok ⟨bc, 0, none⟩ h pb 1 g 1 L v (keepF T) 0 _ R2.out.fc R2.out.ff R2.out.pd R2.out.ne R2.out.nv (by decide) 0 HA.out).mono ?_); rintro e w6 ⟨rfl, hr⟩; have R3 := Lib.hid (R2.out.ear hr); clear hr R2 P0
      (try dsimp only)
      (try simp only [Act.put, nA, nB, nC])
      refine hK _ _ ?_
      clear hK K
      refine wpList_val (v := ?_) rfl ?_ ?_
      rotate_left
      · (go_simp; (try (first | with_reducible rfl | (constructor <;> with_reducible rfl))))
      (try simp only [Act.put, nA, nB, nC])
      refine wpList_nil ?_
      obtain ⟨H3, hH3⟩ : ∃ x, (h || crH g (keepF T) 0 (L 0) || orB (fun i => eaH (crF g (ofF (keepF T) 0) (L 0)) (crFH g (ofF (keepF T) 0) (L 0)) (L i)) 1) = x := ⟨_, rfl⟩
      rw [hH3] at R3
      clear hH3
      have HQ := Lib.hid (show eaL (crF g (ofF (keepF T) 0) (L 0)) L 1 0 = eaF (crF g (ofF (keepF T) 0) (L 0)) (L 0) from rfl)
      obtain ⟨L2, hL2⟩ : ∃ x, eaL (crF g (ofF (keepF T) 0) (L 0)) L 1 = x := ⟨_, rfl⟩
      rw [hL2] at R3 HQ
      clear hL2
      have HZ := Lib.hid (show ∃ S'', L2 0 = ofF S'' 0 by
        rw [HQ.out]; unfold eaF; rw [HO.out]; exact ⟨_, rfl⟩)
      have HV := Lib.hid (show ∀ j, 5 ≤ j → j < 11 → L2 0 j = addV (L 0 j) (mulV (subV (keepF T (j - 1)) (L 0 j)) g 30) ∧ (-(obx j) ≤ L 0 j ∧ L 0 j ≤ obx j) ∧ -(obx j) ≤ keepF T (j - 1) ∧ keepF T (j - 1) ≤ obx j by
        intro j h1 h2
        have e1 := of_keep T 0 h1 h2
        have e2 := of_bd (keepF T) 0 h1 h2
        rw [e1] at e2
        refine ⟨?_, by rw [HO.out]; exact of_bd _ _ h1 h2, e2⟩
        rw [HQ.out, HO.out, near_out HG.out _ _ _ _ h1 h2, e1])
      clear HQ HO HA
      go_upto_region 17 with fail
      refine wp_region_lit ?_
      refine wpList_val (v := ?_) rfl ?_ ?_
      rotate_left
      · (go_simp; (try (first | with_reducible rfl | (constructor <;> with_reducible rfl))))
      (try simp only [Act.put, nA, nB, nC])
      refine wpList_step (fun K hK => ?_)
      go_simp
      (refine (now_some pb 1 g 0 L2 v _ R3.out.pd (by decide)).mono ?_); rintro e w7 ⟨rfl, hb⟩; have R4 := Lib.hid (R3.out.down hb); clear hb R3; have NN := Lib.hid (R4.out.putO (L2 0))
      (try dsimp only)
      (try simp only [Act.put, nA, nB, nC])
      refine hK _ _ ?_
      clear hK K
      refine wpList_val (v := ?_) rfl ?_ ?_
      rotate_left
      · (go_simp; (try (first | with_reducible rfl | (constructor <;> with_reducible rfl))))
      (try simp only [Act.put, nA, nB, nC])
      refine wpList_val (v := ?_) rfl ?_ ?_
      rotate_left
      · (go_simp; (try (first | with_reducible rfl | (constructor <;> with_reducible rfl))))
      (try simp only [Act.put, nA, nB, nC])
      refine wpList_val (v := ?_) rfl ?_ ?_
      rotate_left
      · (go_simp; (try (first | with_reducible rfl | (constructor <;> with_reducible rfl))))
      (try simp only [Act.put, nA, nB, nC])
      refine wpList_act (v := ?_) (w' := ?_) rfl ?_ ?_
      rotate_left 2
      · (go_simp; (try (first | with_reducible rfl | (constructor <;> with_reducible rfl))))
      (try simp only [Act.put, nA, nB, nC])
      refine wpList_done (w' := ?_) rfl ?_ ?_
      rotate_left
      · (refine Eq.trans (run_store_row 49 (.tmp 14) (.tmp 68) (by rfl) (w7.heap.size) (by rfl) (by rfl) NN.out.1 (iou.trans rfl)) ?_; with_reducible rfl)
      (try simp only [Act.put, nA, nB, nC])
      refine wpList_val (v := ?_) rfl ?_ ?_
      rotate_left
      · (go_simp; (try (first | with_reducible rfl | (constructor <;> with_reducible rfl))))
      (try simp only [Act.put, nA, nB, nC])
      refine wpList_nil ?_
      have R5 := Lib.hid (NN.out.2.sub (E' := [⟨w.heap.size + 1, 32, 24, keepF T⟩, ⟨b12, 49, 11, L 0⟩, ⟨w7.heap.size, 49, 11, L2 0⟩]) (S' := []) (by simp) (by simp))
      generalize (w7.alloc (.cells #[.int .i64 0, .int .i64 0, .int .i64 0, .int .i64 0, .int .i64 0, .int .i64 0, .int .i64 0, .int .i64 0, .int .i64 0, .int .i64 0, .int .i64 0] 49)).setRow w7.heap.size (arrv 11 (L2 0)) = W7 at *
      clear NN R4
      obtain ⟨b14, hb14⟩ : ∃ x, w7.heap.size = x := ⟨_, rfl⟩
      rw [hb14] at R5 ⊢
      clear hb14
      obtain ⟨KT, hKT⟩ : ∃ x, keepF T = x := ⟨_, rfl⟩
      rw [hKT] at R5 HV
      have HKT := Lib.hid hKT
      clear hKT
      obtain ⟨O, hO⟩ : ∃ x, L 0 = x := ⟨_, rfl⟩
      rw [hO] at R5 HV ⊢
      clear hO
      obtain ⟨Q, hQ⟩ : ∃ x, L2 0 = x := ⟨_, rfl⟩
      rw [hQ] at R5 HV ⊢
      have HQ := Lib.hid hQ
      clear hQ
      go_upto_region 19 with fail
      go_loopw [16] (fun i wr => ∃ (j : Nat) (h : Bool), j ≤ 3 ∧ i = .int .i64 j ∧ Hid (FiR bc h pb 1 g v 1 L2 [⟨w.heap.size + 1, 32, 24, KT⟩, ⟨b12, 49, 11, O⟩, ⟨b14, 49, 11, Q⟩] [] w wr)) (fun i _ => 3 - (intOf i).toNat)
      case atStart => exact ⟨0, H3, by omega, rfl, R5⟩
      case round =>
        obtain ⟨j, hj0, hj, rfl, R6⟩ := hrel
        clear R5
        have j0 : (0 : Int) ≤ (j : Int) := Int.natCast_nonneg _
        by_cases hjl : j < 3
        · have g1 : decide ((j : Int) < 3) = true := by simp; omega
          have j1 : (j : Int) < 3 := by omega
          have jw4 : IntKind.i64.wrap (4 + (j : Int)) = 4 + (j : Int) := IntWalk.i64_in _ (by omega)
          have jw7 : IntKind.i64.wrap (7 + (j : Int)) = 7 + (j : Int) := IntWalk.i64_in _ (by omega)
          have i4a : (0 : Int) ≤ 4 + (j : Int) := by omega
          have i4b : 4 + (j : Int) < 24 := by omega
          have i4c : (4 + (j : Int)).toNat = 4 + j := by omega
          have i7a : (0 : Int) ≤ 7 + (j : Int) := by omega
          have i7b : 7 + (j : Int) < 24 := by omega
          have i7c : (7 + (j : Int)).toNat = 7 + j := by omega
          have V1 := HV.out (5 + j) (by omega) (by omega)
          have V2 := HV.out (8 + j) (by omega) (by omega)
          rw [show 5 + j - 1 = 4 + j by omega] at V1
          rw [show 8 + j - 1 = 7 + j by omega] at V2
          have CE := Lib.hid (show (∀ x, FiR bc hj0 pb 1 g v 1 L2 [⟨w.heap.size + 1, 32, 24, KT⟩, ⟨b12, 49, 11, O⟩, ⟨b14, 49, 11, Q⟩] [] w x → x.cell? ⟨w.heap.size + 1, 4 + j, none⟩ = some (.int .i64 (KT (4 + j)))) ∧ (∀ x, FiR bc hj0 pb 1 g v 1 L2 [⟨w.heap.size + 1, 32, 24, KT⟩, ⟨b12, 49, 11, O⟩, ⟨b14, 49, 11, Q⟩] [] w x → x.cell? ⟨w.heap.size + 1, 7 + j, none⟩ = some (.int .i64 (KT (7 + j)))) ∧ (∀ x, FiR bc hj0 pb 1 g v 1 L2 [⟨w.heap.size + 1, 32, 24, KT⟩, ⟨b12, 49, 11, O⟩, ⟨b14, 49, 11, Q⟩] [] w x → x.cell? ⟨b12, 5 + j, none⟩ = some (.int .i64 (O (5 + j)))) ∧ (∀ x, FiR bc hj0 pb 1 g v 1 L2 [⟨w.heap.size + 1, 32, 24, KT⟩, ⟨b12, 49, 11, O⟩, ⟨b14, 49, 11, Q⟩] [] w x → x.cell? ⟨b12, 8 + j, none⟩ = some (.int .i64 (O (8 + j)))) ∧ (∀ x, FiR bc hj0 pb 1 g v 1 L2 [⟨w.heap.size + 1, 32, 24, KT⟩, ⟨b12, 49, 11, O⟩, ⟨b14, 49, 11, Q⟩] [] w x → x.cell? ⟨b14, 5 + j, none⟩ = some (.int .i64 (Q (5 + j)))) ∧ (∀ x, FiR bc hj0 pb 1 g v 1 L2 [⟨w.heap.size + 1, 32, 24, KT⟩, ⟨b12, 49, 11, O⟩, ⟨b14, 49, 11, Q⟩] [] w x → x.cell? ⟨b14, 8 + j, none⟩ = some (.int .i64 (Q (8 + j)))) from
            ⟨fun x s => s.e0.cell (by omega), fun x s => s.e0.cell (by omega), fun x s => s.e1.cell (by omega), fun x s => s.e1.cell (by omega), fun x s => s.e2.cell (by omega), fun x s => s.e2.cell (by omega)⟩)
          obtain ⟨t1, ht1⟩ : ∃ x, KT (4 + j) = x := ⟨_, rfl⟩
          obtain ⟨t2, ht2⟩ : ∃ x, KT (7 + j) = x := ⟨_, rfl⟩
          obtain ⟨o1, ho1⟩ : ∃ x, O (5 + j) = x := ⟨_, rfl⟩
          obtain ⟨o2, ho2⟩ : ∃ x, O (8 + j) = x := ⟨_, rfl⟩
          obtain ⟨q1, hq1⟩ : ∃ x, Q (5 + j) = x := ⟨_, rfl⟩
          obtain ⟨q2, hq2⟩ : ∃ x, Q (8 + j) = x := ⟨_, rfl⟩
          rw [ht1, ht2, ho1, ho2, hq1, hq2] at CE
          rw [ht1, ho1, hq1] at V1
          rw [ht2, ho2, hq2] at V2
          clear ht1 ht2 ho1 ho2 hq1 hq2
          obtain ⟨na1, na2, na3, na4, na5, na6, na7⟩ := near_abs ⟨by have := obx_bd (5 + j); omega, (obx_bd (5 + j)).2⟩ V1.2.2 V1.2.1 HG.out V1.1
          obtain ⟨nb1, nb2, nb3, nb4, nb5, nb6, nb7⟩ := near_abs ⟨by have := obx_bd (8 + j); omega, (obx_bd (8 + j)).2⟩ V2.2.2 V2.2.1 HG.out V2.1
          clear V1 V2
          have u1 : IntKind.i64.wrap (t1 - o1) = t1 - o1 := IntWalk.i64_in _ (by omega)
          have u2 : IntKind.i64.wrap (t1 - q1) = t1 - q1 := IntWalk.i64_in _ (by omega)
          have u3 : IntKind.i64.wrap (t2 - o2) = t2 - o2 := IntWalk.i64_in _ (by omega)
          have u4 : IntKind.i64.wrap (t2 - q2) = t2 - q2 := IntWalk.i64_in _ (by omega)
          obtain ⟨a, ha⟩ : ∃ x, absV (t1 - o1) = x := ⟨_, rfl⟩
          obtain ⟨b, hb⟩ : ∃ x, absV (t1 - q1) = x := ⟨_, rfl⟩
          obtain ⟨x, hx⟩ : ∃ x, absV (t2 - o2) = x := ⟨_, rfl⟩
          obtain ⟨y, hy⟩ : ∃ x, absV (t2 - q2) = x := ⟨_, rfl⟩
          rw [ha, hb] at na3
          rw [ha] at na4 na5 na6 na7
          rw [hx, hy] at nb3
          rw [hx] at nb4 nb5 nb6 nb7
          have Na := Lib.hid ha
          have Nb := Lib.hid hb
          have Nx := Lib.hid hx
          have Ny := Lib.hid hy
          clear ha hb hx hy
          obtain ⟨m1, hm1⟩ : ∃ r, mulV g a 30 = r := ⟨_, rfl⟩
          obtain ⟨m2, hm2⟩ : ∃ r, mulV g x 30 = r := ⟨_, rfl⟩
          rw [hm1] at na3 na6 na7
          rw [hm2] at nb3 nb6 nb7
          have M1 := Lib.hid hm1
          have M2 := Lib.hid hm2
          clear hm1 hm2
          have s1 : IntKind.i64.wrap (a - m1) = a - m1 := IntWalk.i64_in _ (by omega)
          have s2 : IntKind.i64.wrap (a - m1 + 1) = a - m1 + 1 := IntWalk.i64_in _ (by omega)
          have s3 : IntKind.i64.wrap (x - m2) = x - m2 := IntWalk.i64_in _ (by omega)
          have s4 : IntKind.i64.wrap (x - m2 + 1) = x - m2 + 1 := IntWalk.i64_in _ (by omega)
          have z1 : decide (a - m1 + 1 < b) = false := by simp; omega
          have z2 : decide (x - m2 + 1 < y) = false := by simp; omega
          clear na1 na2 na3 na4 na5 na6 na7 nb1 nb2 nb3 nb4 nb5 nb6 nb7
          go_upto_region 21 with fail
          have HS := Lib.hid R6.out.drew
          clear R6
          (try simp only [Act.put])
          refine wp_region_M (fun w' => w'.cell? ⟨w.heap.size + 1, 4 + j, none⟩ = some (.int .i64 t1) ∧ w'.cell? ⟨b12, 5 + j, none⟩ = some (.int .i64 o1)) 10 (by kernel_rfl) ?_ (fun hHeld => ?_)
          · exact ⟨CE.out.1 _ HS.out, CE.out.2.2.1 _ HS.out⟩
          refine wpAnyM_take 0 (v := ?_) rfl (by kernel_rfl) (fun _ _ _ h => h) (Or.inl ⟨by rfl, ?_⟩) (by assumption) ?_
          rotate_left
          · (intro wx hSw; (try dsimp only at hSw); go_simp; (try with_reducible rfl))
          (try simp only [Act.put, nA, nB, nC])
          refine wpAnyM_take 1 (v := ?_) rfl (by kernel_rfl) (fun _ _ _ h => h) (Or.inl ⟨by rfl, ?_⟩) (by assumption) ?_
          rotate_left
          · (intro wx hSw; (try dsimp only at hSw); go_simp; (try with_reducible rfl))
          (try simp only [Act.put, nA, nB, nC])
          refine wpAnyM_take 2 (v := ?_) rfl (by kernel_rfl) (fun _ _ _ h => h) (Or.inl ⟨by rfl, ?_⟩) (by assumption) ?_
          rotate_left
          · (intro wx hSw; (try dsimp only at hSw); go_simp; (try with_reducible rfl))
          (try simp only [Act.put, nA, nB, nC])
          refine wpAnyM_take 3 (v := ?_) rfl (by kernel_rfl) (fun _ _ _ h => h) (Or.inl ⟨by rfl, ?_⟩) (by assumption) ?_
          rotate_left
          · (intro wx hSw; have q := hSw.1; go_simp; (try with_reducible rfl))
          (try simp only [Act.put, nA, nB, nC])
          refine wpAnyM_take 4 (v := ?_) rfl (by kernel_rfl) (fun _ _ _ h => h) (Or.inl ⟨by rfl, ?_⟩) (by assumption) ?_
          rotate_left
          · (intro wx hSw; (try dsimp only at hSw); go_simp; (try with_reducible rfl))
          (try simp only [Act.put, nA, nB, nC])
          refine wpAnyM_take 5 (v := ?_) rfl (by kernel_rfl) (fun _ _ _ h => h) (Or.inl ⟨by rfl, ?_⟩) (by assumption) ?_
          rotate_left
          · (intro wx hSw; (try dsimp only at hSw); go_simp; (try with_reducible rfl))
          (try simp only [Act.put, nA, nB, nC])
          refine wpAnyM_take 6 (v := ?_) rfl (by kernel_rfl) (fun _ _ _ h => h) (Or.inl ⟨by rfl, ?_⟩) (by assumption) ?_
          rotate_left
          · (intro wx hSw; (try dsimp only at hSw); go_simp; (try with_reducible rfl))
          (try simp only [Act.put, nA, nB, nC])
          refine wpAnyM_take 7 (v := ?_) rfl (by kernel_rfl) (fun _ _ _ h => h) (Or.inl ⟨by rfl, ?_⟩) (by assumption) ?_
          rotate_left
          · (intro wx hSw; have q := hSw.2; go_simp; (try with_reducible rfl))
          (try simp only [Act.put, nA, nB, nC])
          refine wpAnyM_take 8 (v := ?_) rfl (by kernel_rfl) (fun _ _ _ h => h) (Or.inl ⟨by rfl, ?_⟩) (by assumption) ?_
          rotate_left
          · (intro wx hSw; (try dsimp only at hSw); go_simp; (try with_reducible rfl))
          (try simp only [Act.put, nA, nB, nC])
          refine wpAnyM_oneS 9 rfl (by kernel_rfl) (fun K hK => ?_)
          go_simp
          (refine (fabs_any (t1 - o1) _).mono ?_); rintro e wn ⟨rfl, rfl⟩; (rw [Na.out])
          (try dsimp only)
          (try simp only [Act.put, nA, nB, nC])
          clear hHeld
          refine hK.out _ _ ?_ (fun hHeld => ?_)
          · exact ⟨CE.out.1 _ HS.out, CE.out.2.2.1 _ HS.out⟩
          clear hK K
          (try simp only [Act.put, nA, nB, nC])
          refine wpAnyM_one 10 rfl (by kernel_rfl) (fun K hK => ?_)
          go_simp
          refine hK.out _ _ (.inl (by kernel_rfl)) (fun _ => ?_)
          clear hK K
          (try simp only [Act.put, nA, nB, nC])
          refine wpAnyM_done (by kernel_rfl) ?_ _
          have R6 := HS
          clear HS
          go_upto_region 22 with fail
          have HS := Lib.hid R6.out.drew
          clear R6
          (try simp only [Act.put])
          refine wp_region_M (fun w' => w'.cell? ⟨w.heap.size + 1, 4 + j, none⟩ = some (.int .i64 t1) ∧ w'.cell? ⟨b14, 5 + j, none⟩ = some (.int .i64 q1)) 10 (by kernel_rfl) ?_ (fun hHeld => ?_)
          · exact ⟨CE.out.1 _ HS.out, CE.out.2.2.2.2.1 _ HS.out⟩
          refine wpAnyM_take 0 (v := ?_) rfl (by kernel_rfl) (fun _ _ _ h => h) (Or.inl ⟨by rfl, ?_⟩) (by assumption) ?_
          rotate_left
          · (intro wx hSw; (try dsimp only at hSw); go_simp; (try with_reducible rfl))
          (try simp only [Act.put, nA, nB, nC])
          refine wpAnyM_take 1 (v := ?_) rfl (by kernel_rfl) (fun _ _ _ h => h) (Or.inl ⟨by rfl, ?_⟩) (by assumption) ?_
          rotate_left
          · (intro wx hSw; (try dsimp only at hSw); go_simp; (try with_reducible rfl))
          (try simp only [Act.put, nA, nB, nC])
          refine wpAnyM_take 2 (v := ?_) rfl (by kernel_rfl) (fun _ _ _ h => h) (Or.inl ⟨by rfl, ?_⟩) (by assumption) ?_
          rotate_left
          · (intro wx hSw; (try dsimp only at hSw); go_simp; (try with_reducible rfl))
          (try simp only [Act.put, nA, nB, nC])
          refine wpAnyM_take 3 (v := ?_) rfl (by kernel_rfl) (fun _ _ _ h => h) (Or.inl ⟨by rfl, ?_⟩) (by assumption) ?_
          rotate_left
          · (intro wx hSw; have q := hSw.1; go_simp; (try with_reducible rfl))
          (try simp only [Act.put, nA, nB, nC])
          refine wpAnyM_take 4 (v := ?_) rfl (by kernel_rfl) (fun _ _ _ h => h) (Or.inl ⟨by rfl, ?_⟩) (by assumption) ?_
          rotate_left
          · (intro wx hSw; (try dsimp only at hSw); go_simp; (try with_reducible rfl))
          (try simp only [Act.put, nA, nB, nC])
          refine wpAnyM_take 5 (v := ?_) rfl (by kernel_rfl) (fun _ _ _ h => h) (Or.inl ⟨by rfl, ?_⟩) (by assumption) ?_
          rotate_left
          · (intro wx hSw; (try dsimp only at hSw); go_simp; (try with_reducible rfl))
          (try simp only [Act.put, nA, nB, nC])
          refine wpAnyM_take 6 (v := ?_) rfl (by kernel_rfl) (fun _ _ _ h => h) (Or.inl ⟨by rfl, ?_⟩) (by assumption) ?_
          rotate_left
          · (intro wx hSw; (try dsimp only at hSw); go_simp; (try with_reducible rfl))
          (try simp only [Act.put, nA, nB, nC])
          refine wpAnyM_take 7 (v := ?_) rfl (by kernel_rfl) (fun _ _ _ h => h) (Or.inl ⟨by rfl, ?_⟩) (by assumption) ?_
          rotate_left
          · (intro wx hSw; have q := hSw.2; go_simp; (try with_reducible rfl))
          (try simp only [Act.put, nA, nB, nC])
          refine wpAnyM_take 8 (v := ?_) rfl (by kernel_rfl) (fun _ _ _ h => h) (Or.inl ⟨by rfl, ?_⟩) (by assumption) ?_
          rotate_left
          · (intro wx hSw; (try dsimp only at hSw); go_simp; (try with_reducible rfl))
          (try simp only [Act.put, nA, nB, nC])
          refine wpAnyM_oneS 9 rfl (by kernel_rfl) (fun K hK => ?_)
          go_simp
          (refine (fabs_any (t1 - q1) _).mono ?_); rintro e wn ⟨rfl, rfl⟩; (rw [Nb.out])
          (try dsimp only)
          (try simp only [Act.put, nA, nB, nC])
          clear hHeld
          refine hK.out _ _ ?_ (fun hHeld => ?_)
          · exact ⟨CE.out.1 _ HS.out, CE.out.2.2.2.2.1 _ HS.out⟩
          clear hK K
          (try simp only [Act.put, nA, nB, nC])
          refine wpAnyM_one 10 rfl (by kernel_rfl) (fun K hK => ?_)
          go_simp
          refine hK.out _ _ (.inl (by kernel_rfl)) (fun _ => ?_)
          clear hK K
          (try simp only [Act.put, nA, nB, nC])
          refine wpAnyM_done (by kernel_rfl) ?_ _
          have R6 := HS
          clear HS
          go_upto_region 23 with fail
          have HS := Lib.hid R6.out.drew
          clear R6
          (try simp only [Act.put])
          refine wp_region_M (fun w' => w'.cell? ⟨w.heap.size + 1, 7 + j, none⟩ = some (.int .i64 t2) ∧ w'.cell? ⟨b12, 8 + j, none⟩ = some (.int .i64 o2)) 10 (by kernel_rfl) ?_ (fun hHeld => ?_)
          · exact ⟨CE.out.2.1 _ HS.out, CE.out.2.2.2.1 _ HS.out⟩
          refine wpAnyM_take 0 (v := ?_) rfl (by kernel_rfl) (fun _ _ _ h => h) (Or.inl ⟨by rfl, ?_⟩) (by assumption) ?_
          rotate_left
          · (intro wx hSw; (try dsimp only at hSw); go_simp; (try with_reducible rfl))
          (try simp only [Act.put, nA, nB, nC])
          refine wpAnyM_take 1 (v := ?_) rfl (by kernel_rfl) (fun _ _ _ h => h) (Or.inl ⟨by rfl, ?_⟩) (by assumption) ?_
          rotate_left
          · (intro wx hSw; (try dsimp only at hSw); go_simp; (try with_reducible rfl))
          (try simp only [Act.put, nA, nB, nC])
          refine wpAnyM_take 2 (v := ?_) rfl (by kernel_rfl) (fun _ _ _ h => h) (Or.inl ⟨by rfl, ?_⟩) (by assumption) ?_
          rotate_left
          · (intro wx hSw; (try dsimp only at hSw); go_simp; (try with_reducible rfl))
          (try simp only [Act.put, nA, nB, nC])
          refine wpAnyM_take 3 (v := ?_) rfl (by kernel_rfl) (fun _ _ _ h => h) (Or.inl ⟨by rfl, ?_⟩) (by assumption) ?_
          rotate_left
          · (intro wx hSw; have q := hSw.1; go_simp; (try with_reducible rfl))
          (try simp only [Act.put, nA, nB, nC])
          refine wpAnyM_take 4 (v := ?_) rfl (by kernel_rfl) (fun _ _ _ h => h) (Or.inl ⟨by rfl, ?_⟩) (by assumption) ?_
          rotate_left
          · (intro wx hSw; (try dsimp only at hSw); go_simp; (try with_reducible rfl))
          (try simp only [Act.put, nA, nB, nC])
          refine wpAnyM_take 5 (v := ?_) rfl (by kernel_rfl) (fun _ _ _ h => h) (Or.inl ⟨by rfl, ?_⟩) (by assumption) ?_
          rotate_left
          · (intro wx hSw; (try dsimp only at hSw); go_simp; (try with_reducible rfl))
          (try simp only [Act.put, nA, nB, nC])
          refine wpAnyM_take 6 (v := ?_) rfl (by kernel_rfl) (fun _ _ _ h => h) (Or.inl ⟨by rfl, ?_⟩) (by assumption) ?_
          rotate_left
          · (intro wx hSw; (try dsimp only at hSw); go_simp; (try with_reducible rfl))
          (try simp only [Act.put, nA, nB, nC])
          refine wpAnyM_take 7 (v := ?_) rfl (by kernel_rfl) (fun _ _ _ h => h) (Or.inl ⟨by rfl, ?_⟩) (by assumption) ?_
          rotate_left
          · (intro wx hSw; have q := hSw.2; go_simp; (try with_reducible rfl))
          (try simp only [Act.put, nA, nB, nC])
          refine wpAnyM_take 8 (v := ?_) rfl (by kernel_rfl) (fun _ _ _ h => h) (Or.inl ⟨by rfl, ?_⟩) (by assumption) ?_
          rotate_left
          · (intro wx hSw; (try dsimp only at hSw); go_simp; (try with_reducible rfl))
          (try simp only [Act.put, nA, nB, nC])
          refine wpAnyM_oneS 9 rfl (by kernel_rfl) (fun K hK => ?_)
          go_simp
          (refine (fabs_any (t2 - o2) _).mono ?_); rintro e wn ⟨rfl, rfl⟩; (rw [Nx.out])
          (try dsimp only)
          (try simp only [Act.put, nA, nB, nC])
          clear hHeld
          refine hK.out _ _ ?_ (fun hHeld => ?_)
          · exact ⟨CE.out.2.1 _ HS.out, CE.out.2.2.2.1 _ HS.out⟩
          clear hK K
          (try simp only [Act.put, nA, nB, nC])
          refine wpAnyM_one 10 rfl (by kernel_rfl) (fun K hK => ?_)
          go_simp
          refine hK.out _ _ (.inl (by kernel_rfl)) (fun _ => ?_)
          clear hK K
          (try simp only [Act.put, nA, nB, nC])
          refine wpAnyM_done (by kernel_rfl) ?_ _
          have R6 := HS
          clear HS
          go_upto_region 24 with fail
          have HS := Lib.hid R6.out.drew
          clear R6
          (try simp only [Act.put])
          refine wp_region_M (fun w' => w'.cell? ⟨w.heap.size + 1, 7 + j, none⟩ = some (.int .i64 t2) ∧ w'.cell? ⟨b14, 8 + j, none⟩ = some (.int .i64 q2)) 10 (by kernel_rfl) ?_ (fun hHeld => ?_)
          · exact ⟨CE.out.2.1 _ HS.out, CE.out.2.2.2.2.2 _ HS.out⟩
          refine wpAnyM_take 0 (v := ?_) rfl (by kernel_rfl) (fun _ _ _ h => h) (Or.inl ⟨by rfl, ?_⟩) (by assumption) ?_
          rotate_left
          · (intro wx hSw; (try dsimp only at hSw); go_simp; (try with_reducible rfl))
          (try simp only [Act.put, nA, nB, nC])
          refine wpAnyM_take 1 (v := ?_) rfl (by kernel_rfl) (fun _ _ _ h => h) (Or.inl ⟨by rfl, ?_⟩) (by assumption) ?_
          rotate_left
          · (intro wx hSw; (try dsimp only at hSw); go_simp; (try with_reducible rfl))
          (try simp only [Act.put, nA, nB, nC])
          refine wpAnyM_take 2 (v := ?_) rfl (by kernel_rfl) (fun _ _ _ h => h) (Or.inl ⟨by rfl, ?_⟩) (by assumption) ?_
          rotate_left
          · (intro wx hSw; (try dsimp only at hSw); go_simp; (try with_reducible rfl))
          (try simp only [Act.put, nA, nB, nC])
          refine wpAnyM_take 3 (v := ?_) rfl (by kernel_rfl) (fun _ _ _ h => h) (Or.inl ⟨by rfl, ?_⟩) (by assumption) ?_
          rotate_left
          · (intro wx hSw; have q := hSw.1; go_simp; (try with_reducible rfl))
          (try simp only [Act.put, nA, nB, nC])
          refine wpAnyM_take 4 (v := ?_) rfl (by kernel_rfl) (fun _ _ _ h => h) (Or.inl ⟨by rfl, ?_⟩) (by assumption) ?_
          rotate_left
          · (intro wx hSw; (try dsimp only at hSw); go_simp; (try with_reducible rfl))
          (try simp only [Act.put, nA, nB, nC])
          refine wpAnyM_take 5 (v := ?_) rfl (by kernel_rfl) (fun _ _ _ h => h) (Or.inl ⟨by rfl, ?_⟩) (by assumption) ?_
          rotate_left
          · (intro wx hSw; (try dsimp only at hSw); go_simp; (try with_reducible rfl))
          (try simp only [Act.put, nA, nB, nC])
          refine wpAnyM_take 6 (v := ?_) rfl (by kernel_rfl) (fun _ _ _ h => h) (Or.inl ⟨by rfl, ?_⟩) (by assumption) ?_
          rotate_left
          · (intro wx hSw; (try dsimp only at hSw); go_simp; (try with_reducible rfl))
          (try simp only [Act.put, nA, nB, nC])
          refine wpAnyM_take 7 (v := ?_) rfl (by kernel_rfl) (fun _ _ _ h => h) (Or.inl ⟨by rfl, ?_⟩) (by assumption) ?_
          rotate_left
          · (intro wx hSw; have q := hSw.2; go_simp; (try with_reducible rfl))
          (try simp only [Act.put, nA, nB, nC])
          refine wpAnyM_take 8 (v := ?_) rfl (by kernel_rfl) (fun _ _ _ h => h) (Or.inl ⟨by rfl, ?_⟩) (by assumption) ?_
          rotate_left
          · (intro wx hSw; (try dsimp only at hSw); go_simp; (try with_reducible rfl))
          (try simp only [Act.put, nA, nB, nC])
          refine wpAnyM_oneS 9 rfl (by kernel_rfl) (fun K hK => ?_)
          go_simp
          (refine (fabs_any (t2 - q2) _).mono ?_); rintro e wn ⟨rfl, rfl⟩; (rw [Ny.out])
          (try dsimp only)
          (try simp only [Act.put, nA, nB, nC])
          clear hHeld
          refine hK.out _ _ ?_ (fun hHeld => ?_)
          · exact ⟨CE.out.2.1 _ HS.out, CE.out.2.2.2.2.2 _ HS.out⟩
          clear hK K
          (try simp only [Act.put, nA, nB, nC])
          refine wpAnyM_one 10 rfl (by kernel_rfl) (fun K hK => ?_)
          go_simp
          refine hK.out _ _ (.inl (by kernel_rfl)) (fun _ => ?_)
          clear hK K
          (try simp only [Act.put, nA, nB, nC])
          refine wpAnyM_done (by kernel_rfl) ?_ _
          have R6 := HS
          clear HS
          clear CE
          go_upto_region 25 with fail
          refine wp_region_lit ?_
          refine wpList_val (v := ?_) rfl ?_ ?_
          rotate_left
          · (go_simp; (try (first | with_reducible rfl | (constructor <;> with_reducible rfl))))
          (try simp only [Act.put, nA, nB, nC])
          refine wpList_val (v := ?_) rfl ?_ ?_
          rotate_left
          · (go_simp; (try (first | with_reducible rfl | (constructor <;> with_reducible rfl))))
          (try simp only [Act.put, nA, nB, nC])
          refine wpList_val (v := ?_) rfl ?_ ?_
          rotate_left
          · (go_simp; (try (first | with_reducible rfl | (constructor <;> with_reducible rfl))))
          (try simp only [Act.put, nA, nB, nC])
          refine wpList_val (v := ?_) rfl ?_ ?_
          rotate_left
          · (go_simp; (try (first | with_reducible rfl | (constructor <;> with_reducible rfl))))
          (try simp only [Act.put, nA, nB, nC])
          refine wpList_val (v := ?_) rfl ?_ ?_
          rotate_left
          · (go_simp; (try (first | with_reducible rfl | (constructor <;> with_reducible rfl))))
          (try simp only [Act.put, nA, nB, nC])
          refine wpList_step (fun K hK => ?_)
          go_simp
          (refine (fmul_any ⟨bc, 0, none⟩ hj0 g a 30 _ R6.out.fc R6.out.ff).mono ?_); (rw [M1.out]); rintro e w8 ⟨rfl, hu⟩; have R7 := Lib.hid (R6.out.upd hu); clear hu R6
          (try dsimp only)
          (try simp only [Act.put, nA, nB, nC])
          refine hK _ _ ?_
          clear hK K
          refine wpList_val (v := ?_) rfl ?_ ?_
          rotate_left
          · (go_simp; (try (first | with_reducible rfl | (constructor <;> with_reducible rfl))))
          (try simp only [Act.put, nA, nB, nC])
          refine wpList_val (v := ?_) rfl ?_ ?_
          rotate_left
          · (go_simp; (try (first | with_reducible rfl | (constructor <;> with_reducible rfl))))
          (try simp only [Act.put, nA, nB, nC])
          refine wpList_val (v := ?_) rfl ?_ ?_
          rotate_left
          · (go_simp; (try (first | with_reducible rfl | (constructor <;> with_reducible rfl))))
          (try simp only [Act.put, nA, nB, nC])
          refine wpList_val (v := ?_) rfl ?_ ?_
          rotate_left
          · (go_simp; (try (first | with_reducible rfl | (constructor <;> with_reducible rfl))))
          (try simp only [Act.put, nA, nB, nC])
          first | (refine wpList_val (v := ?_) (by rfl) ?_ ?_; rotate_left; focus ((go_simp; (try (first | with_reducible rfl | (constructor <;> with_reducible rfl)))))) | refine wpList_skip (by rfl) ?_
          (try simp only [Act.put, nA, nB, nC])
          first | (refine wpList_val (v := ?_) (by rfl) ?_ ?_; rotate_left; focus ((go_simp; (try (first | with_reducible rfl | (constructor <;> with_reducible rfl)))))) | refine wpList_skip (by rfl) ?_
          (try simp only [Act.put, nA, nB, nC])
          first | (refine wpList_val (v := ?_) (by rfl) ?_ ?_; rotate_left; focus ((go_simp; (try (first | with_reducible rfl | (constructor <;> with_reducible rfl)))))) | refine wpList_skip (by rfl) ?_
          (try simp only [Act.put, nA, nB, nC])
          first | (refine wpList_val (v := ?_) (by rfl) ?_ ?_; rotate_left; focus ((go_simp; (try (first | with_reducible rfl | (constructor <;> with_reducible rfl)))))) | refine wpList_skip (by rfl) ?_
          (try simp only [Act.put, nA, nB, nC])
          first | (refine wpList_val (v := ?_) (by rfl) ?_ ?_; rotate_left; focus ((go_simp; (try (first | with_reducible rfl | (constructor <;> with_reducible rfl)))))) | refine wpList_skip (by rfl) ?_
          (try simp only [Act.put, nA, nB, nC])
          refine wpList_step (fun K hK => ?_)
          go_simp
          (refine (fmul_any ⟨bc, 0, none⟩ _ g x 30 _ R7.out.fc R7.out.ff).mono ?_); (rw [M2.out]); rintro e w9 ⟨rfl, hu⟩; have R8 := Lib.hid (R7.out.upd hu); clear hu R7
          (try dsimp only)
          (try simp only [Act.put, nA, nB, nC])
          refine hK _ _ ?_
          clear hK K
          first | (refine wpList_val (v := ?_) (by rfl) ?_ ?_; rotate_left; focus ((go_simp; (try (first | with_reducible rfl | (constructor <;> with_reducible rfl)))))) | refine wpList_skip (by rfl) ?_
          (try simp only [Act.put, nA, nB, nC])
          first | (refine wpList_val (v := ?_) (by rfl) ?_ ?_; rotate_left; focus ((go_simp; (try (first | with_reducible rfl | (constructor <;> with_reducible rfl)))))) | refine wpList_skip (by rfl) ?_
          (try simp only [Act.put, nA, nB, nC])
          first | (refine wpList_val (v := ?_) (by rfl) ?_ ?_; rotate_left; focus ((go_simp; (try (first | with_reducible rfl | (constructor <;> with_reducible rfl)))))) | refine wpList_skip (by rfl) ?_
          (try simp only [Act.put, nA, nB, nC])
          refine wpList_val (v := ?_) rfl ?_ ?_
          rotate_left
          · (go_simp; (try (first | with_reducible rfl | (constructor <;> with_reducible rfl))))
          (try simp only [Act.put, nA, nB, nC])
          refine wpList_nil ?_
          go_wp2_with fail
          go_roundw
          case rel => exact ⟨j + 1, _, by omega, by go_num, R8⟩
          case measure => simp [intOf]; omega
        · obtain rfl : j = 3 := by omega
          have g1 : decide (((3 : Nat) : Int) < 3) = false := by decide
          go_wp2_with fail
          go_roundw
          case rel => exact ⟨k + 1, hj0, L2, by omega, by go_num, Lib.hid ⟨by rw [HKT.out]; exact R6.out.sub (by simp) (by simp), HZ.out⟩⟩
          case measure => simp [intOf]; omega
    · obtain rfl : k = N := by omega
      have d1 : decide (k < k) = false := by simp
      have d2 : decide ((k : Int) < (k : Int)) = false := by simp
      go_wp2_with fail
      go_ret
      exact ⟨rfl, R.out.1.below⟩
end Go.Proofs.Ytpoiobgpggiebaa
