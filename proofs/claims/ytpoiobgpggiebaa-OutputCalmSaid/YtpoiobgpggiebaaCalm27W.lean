/- The walk of OutputCalm. -/
import Derived.Test.YtpoiobgpggiebaaQ22
import Derived.Test.YtpoiobgpggiebaaQ23
namespace Go.Proofs.Ytpoiobgpggiebaa
open Go.RowKit
open Go
set_option maxRecDepth 100000
/-- Three numbers loaded from the middle of a block. -/
theorem run_load_v3 {o : Oper} {ev : Operand → Value} {w : World} (x : Operand) (ho : o.op = .load 43 x) (b off : Nat) (hx : ev x = .pointer (some ⟨b, off, none⟩)) (f : Nat → Int)
    (hc : ∀ j, j < 3 → w.cell? ⟨b, off + j, none⟩ = some (.int .i64 (f j))) : (execOp ev o).run Try.prog w = .ok (.value (.agg (arrv 3 f))) w := by
  have h := run_loadVar_mid (P := Try.prog) w b off 43 (arrv 3 f).toList _ (fun j v hv => by
    have hj : j < 3 := by
      have := (List.getElem?_eq_some_iff.1 hv).1
      simpa [arrv_size] using this
    rw [Array.getElem?_toList, arrv_get hj] at hv
    injection hv with hv
    rw [← hv]; exact hc j hj) Try.underlying43 rfl (by rw [iv3, Array.length_toList, arrv_size])
  rw [Array.toArray_toList] at h
  unfold execOp
  simp [ho, hx, Instr.loadAt, Instr.sureAddr, Sem.run_bind, h]
theorem with_po (K O : Nat → Int) : withF K 0 10 (fun i => ten (O 1) (O 2) (O 3) (O 4) (O 5) (O 6) (O 7) (O 8) (O 9) (O 10) (0 + i)) = poF K O := by
  funext i
  rw [poF_get]
  unfold withF
  by_cases h : i < 10
  · rw [if_pos (by omega), if_pos h]
    show ten (O 1) (O 2) (O 3) (O 4) (O 5) (O 6) (O 7) (O 8) (O 9) (O 10) (0 + ((i : Int) - 0).toNat) = O (1 + i)
    rw [show 0 + ((i : Int) - 0).toNat = i by omega, ten_of O h]
  · rw [if_neg (by omega), if_neg h]
section
variable {bc pb : Nat} {h h' : Bool} {z g : Int} {v : Value} {n : Nat} {L : Nat → Nat → Int} {E : List Lx} {Sl : List Sx} {w wr w' : World}
/-- Blocks of a call beside what a law keeps. -/
theorem fi_slE (s : FiR bc h pb z g v n L E Sl w wr) (A : Nat → Int) (d : Nat) (e : wr.heap.size = d) :
    (FiR bc h pb z g v n L E Sl w (wr.alloc (.cells (arrv 10 A) 2)) ∧ Below wr.heap.size wr (wr.alloc (.cells (arrv 10 A) 2))) ∧ Blk (wr.alloc (.cells (arrv 10 A) 2)) d 2 10 A ∧ d ≠ bc := by
  have := s.lc
  subst e; exact ⟨⟨s.alloc _, (Below.refl _ _).alloc (Nat.le_refl _) _⟩, Blk.new _ _ _ _, by omega⟩
theorem fi_nsE (s : FiR bc h pb z g v n L E Sl w wr) (d : Nat) (e : wr.heap.size = d) :
    (FiR bc h pb z g v n L E Sl w (wr.alloc (.cells #[.int .i64 0, .int .i64 0, .int .i64 0, .int .i64 0, .int .i64 0, .int .i64 0, .int .i64 0, .int .i64 0, .int .i64 0, .int .i64 0, .int .i64 0, .int .i64 0, .int .i64 0, .int .i64 0, .int .i64 0, .int .i64 0, .int .i64 0, .int .i64 0, .int .i64 0, .int .i64 0, .int .i64 0, .int .i64 0, .int .i64 0, .int .i64 0] 32)) ∧ Below wr.heap.size wr (wr.alloc (.cells #[.int .i64 0, .int .i64 0, .int .i64 0, .int .i64 0, .int .i64 0, .int .i64 0, .int .i64 0, .int .i64 0, .int .i64 0, .int .i64 0, .int .i64 0, .int .i64 0, .int .i64 0, .int .i64 0, .int .i64 0, .int .i64 0, .int .i64 0, .int .i64 0, .int .i64 0, .int .i64 0, .int .i64 0, .int .i64 0, .int .i64 0, .int .i64 0] 32))) ∧ Blk (wr.alloc (.cells #[.int .i64 0, .int .i64 0, .int .i64 0, .int .i64 0, .int .i64 0, .int .i64 0, .int .i64 0, .int .i64 0, .int .i64 0, .int .i64 0, .int .i64 0, .int .i64 0, .int .i64 0, .int .i64 0, .int .i64 0, .int .i64 0, .int .i64 0, .int .i64 0, .int .i64 0, .int .i64 0, .int .i64 0, .int .i64 0, .int .i64 0, .int .i64 0] 32)) d 32 24 (fun _ => 0) ∧ d ≠ bc ∧ w.heap.size ≤ d ∧ d ≠ pb ∧ v.ownBlock ≠ some d ∧ (∀ e, e ∈ Sl → e.b ≠ d) ∧ ∀ e, e ∈ E → e.b ≠ d := by
  subst e
  refine ⟨⟨s.alloc _, (Below.refl _ _).alloc (Nat.le_refl _) _⟩, by rw [zvec24]; exact Blk.new _ _ _ _, by have := s.lc; omega, s.below.size, by have := s.pd.lt; omega, fun hv => by have := s.pd.own.lt hv; omega, fun e he => by have := (s.sx e he).1.1; omega, fun e he => by have := (s.ex e he).1.lt; omega⟩
theorem FiR.rowE (s : FiR bc h pb z g v n L E Sl w wr) {b : Nat} (h0 : w.heap.size ≤ b) (h1 : b ≠ bc) (h2 : b ≠ pb) (h3 : v.ownBlock ≠ some b) (h4 : ∀ e, e ∈ Sl → e.b ≠ b) (h5 : ∀ e, e ∈ E → e.b ≠ b) (F : Array Value) : FiR bc h pb z g v n L E Sl w (wr.setRow b F) := by
  refine ⟨below_row s.below h0 F, by rw [(ls_row_other _ (by show bc ≠ b; exact fun e => h1 e.symm)).1]; exact s.fc, by rw [(ls_row_other _ (by show bc ≠ b; exact fun e => h1 e.symm)).2]; exact s.ff, s.pd.row F (fun e => h2 e.symm) (fun k hk e => h3 (by rw [hk, e])), s.ne, s.nv, s.lb, s.lp, s.lv, fun e he => ?_, fun e he => ?_⟩
  · obtain ⟨a, c⟩ := s.ex e he
    exact ⟨a.setRow_other _ (h5 e he), c⟩
  · obtain ⟨⟨a, a2⟩, c⟩ := s.sx e he
    exact ⟨⟨by rw [setRow_size]; exact a, fun i hi j hj => by rw [(ls_row_other _ (by show e.b ≠ b; exact h4 e he)).1]; exact a2 i hi j hj⟩, c⟩
theorem fi_fillE {b : Nat} {f : Nat → Int} (s : FiR bc h pb z g v n L E Sl w wr) (hb : Blk wr b 32 24 f) (hh : b ≠ bc ∧ w.heap.size ≤ b ∧ b ≠ pb ∧ v.ownBlock ≠ some b ∧ (∀ e, e ∈ Sl → e.b ≠ b) ∧ ∀ e, e ∈ E → e.b ≠ b) (F : Nat → Int) : FiR bc h pb z g v n L (⟨b, 32, 24, F⟩ :: E) Sl w (wr.setRow b (arrv 24 F)) :=
  (s.rowE hh.2.1 hh.1 hh.2.2.1 hh.2.2.2.1 hh.2.2.2.2.1 hh.2.2.2.2.2 _).add (hb.setRow F) hh.2.1 hh.1 hh.2.2.1 hh.2.2.2.1
end
set_option maxHeartbeats 16000000 in
theorem calm27_walk (z g : Int) (S : Nat → Int) (q : Option Addr) (n cp : Nat) (I : Nat → Int) (at' : Int) (w : World) (hI : Slc w q (8 * n) I) :
    Calls Try.prog 7 #[.int .i64 z, .int .i64 g, .agg (arrv 24 S), .slice q n cp, .int .i64 at'] w fun e w' => e = .returned (.bool true) ∧ Below w.heap.size w w' := by
  have L0 := Lib.hid ((bs_nil w).lay 32 24 S)
  have HI := Lib.hid hI
  clear hI
  go_enter Try.func7, Try.ntmps7
  go_upto_region 3 with (go_at_call 9; (refine (awake27_any _).mono ?_); rintro e w1 ⟨rfl, hb1⟩)
  have L1 := Lib.hid (L0.out.down hb1)
  clear hb1 L0
  have P0 := L1.out.e0
  by_cases h0 : g < 1
  · have e0 : decide (g < 1) = true := by simpa using h0
    clear h0
    go_wp2_with fail
    go_ret
    exact ⟨rfl, L1.out.below⟩
  have e0 : decide (g < 1) = false := by simpa using h0
  by_cases h1 : 1073741824 < g
  · have e1 : decide (1073741824 < g) = true := by simpa using h1
    clear h1
    go_wp2_with fail
    go_ret
    exact ⟨rfl, L1.out.below⟩
  have e1 : decide (1073741824 < g) = false := by simpa using h1
  have GG := Lib.hid (show 1 ≤ g ∧ g ≤ 1073741824 from ⟨by omega, by omega⟩)
  go_upto_region 5 with fail
  clear h0 h1 e0 e1
  by_cases hg : 1 ≤ z ∧ z ≤ 64 ∧ 1 ≤ g ∧ g ≤ 1073741824 ∧ n ≤ 20
  · have HG := Lib.hid hg
    refine wp_region_lit ?_
    refine wpList_val (v := ?_) rfl ?_ ?_
    rotate_left
    · (go_simp; (try (first | with_reducible rfl | (constructor <;> with_reducible rfl))))
    (try simp only [Act.put, nA, nB, nC])
    refine wpList_val (v := ?_) rfl ?_ ?_
    rotate_left
    · (go_simp; (try (first | with_reducible rfl | (constructor <;> with_reducible rfl))))
    (try simp only [Act.put, nA, nB, nC])
    refine wpList_val (v := ?_) rfl ?_ ?_
    rotate_left
    · refine Eq.trans (run_load_row 32 (.tmp 7) (by rfl) (w.heap.size) (by rfl) _ _ _ _ (P0) Try.underlying32 rfl (ist.trans (by rw [arrv_size]))) ?_; with_reducible rfl
    (try simp only [Act.put, nA, nB, nC])
    refine wpList_val (v := ?_) rfl ?_ ?_
    rotate_left
    · (go_simp; (try (first | with_reducible rfl | (constructor <;> with_reducible rfl))))
    (try simp only [Act.put, nA, nB, nC])
    refine wpList_step (fun K hK => ?_)
    go_simp
    (refine (fill_ok z g S q n cp I _ HG.out.1 HG.out.2.1 HG.out.2.2.1 HG.out.2.2.2.1 HG.out.2.2.2.2 (HI.out.below L1.out.below)).mono ?_); rintro e w2 ⟨pb, m, L, v, rfl, hf⟩; have F0 := Lib.hid hf; clear hf
    (try dsimp only)
    (try simp only [Act.put, nA, nB, nC])
    refine hK _ _ ?_
    clear hK K
    refine wpList_val (v := ?_) rfl ?_ ?_
    rotate_left
    · (go_simp; (try (first | with_reducible rfl | (constructor <;> with_reducible rfl))))
    (try simp only [Act.put, nA, nB, nC])
    refine wpList_nil ?_
    have OK := Lib.hid F0.out.ok
    have hN2 := OK.out.most
    have hN3 := HG.out.2.1
    clear hg P0
    go_upto_region 8 with fail
    refine wp_region_lit ?_
    refine wpList_val (v := ?_) rfl ?_ ?_
    rotate_left
    · (go_simp; (try (first | with_reducible rfl | (constructor <;> with_reducible rfl))))
    (try simp only [Act.put, nA, nB, nC])
    refine wpList_step (fun K hK => ?_)
    go_simp
    (refine (all_out pb z g (m + 1) L v _ F0.out.pd (by omega)).mono ?_); rintro e w3 ⟨vl, rfl, hb, ho, gl, hv, hg⟩; have HB := Lib.hid (L1.out.below.trans ((F0.out.below.trans (hb.mono F0.out.below.size)).mono L1.out.below.size)); obtain ⟨cl, rfl, hcl, hS⟩ := fi_of_all F0.out L1.out.below [⟨w.heap.size, 32, 24, S⟩] (fun e he => ⟨(L1.out.ex e he).1, (L1.out.ex e he).2.1⟩) hb ho hv hg; have S0 := Lib.hid hS; clear hb ho hv hg hS F0 L1
    (try dsimp only)
    (try simp only [Act.put, nA, nB, nC])
    refine hK _ _ ?_
    clear hK K
    refine wpList_val (v := ?_) rfl ?_ ?_
    rotate_left
    · (go_simp; (try (first | with_reducible rfl | (constructor <;> with_reducible rfl))))
    (try simp only [Act.put, nA, nB, nC])
    refine wpList_nil ?_
    obtain ⟨N, hN⟩ : ∃ x, m + 1 = x := ⟨_, rfl⟩
    rw [hN] at S0 OK ⊢
    have hN4 : (N : Int) ≤ 64 := by omega
    have n0 : (0 : Int) ≤ (N : Int) := Int.natCast_nonneg _
    clear hN hN2 hN3
    go_upto_region 9 with fail
    by_cases a0 : at' < 0
    · have e0 : decide (at' < 0) = true := by simpa using a0
      clear a0
      go_wp2_with fail
      go_ret
      exact ⟨rfl, HB.out⟩
    have e0 : decide (at' < 0) = false := by simpa using a0
    obtain ⟨A, rfl⟩ : ∃ A : Nat, at' = (A : Int) := ⟨at'.toNat, by omega⟩
    by_cases a1 : N ≤ A
    · have e1 : decide (N ≤ A) = true := by simpa using a1
      have e2 : decide ((N : Int) ≤ (A : Int)) = true := by simp; omega
      clear a1 a0
      go_wp2_with fail
      go_ret
      exact ⟨rfl, HB.out⟩
    have e1 : decide (N ≤ A) = false := by simp; omega
    have e2 : decide ((N : Int) ≤ (A : Int)) = false := by simp; omega
    have hA : A < N := by omega
    have A0 : (0 : Int) ≤ (A : Int) := Int.natCast_nonneg _
    have A1 : (A : Int) < (N : Int) := by omega
    clear a0 a1
    go_upto_region 12 with fail
    clear e0 e1 e2 HB
    generalize w3.alloc (.cells #[.bool false] 29) = W0 at *
    obtain ⟨bc, hbc⟩ : ∃ x, w3.heap.size = x := ⟨_, rfl⟩
    rw [hbc] at S0 ⊢
    clear hbc
    have CO := Lib.hid (fun i (hi : i < 11) => S0.out.s0 hA hi)
    have HK := Lib.hid (lastK_at (t := L A 0) hA (Int.le_refl _) (fun i h1 h2 => OK.out.rise A i h1 h2))
    have HC := Lib.hid (show ∀ i, i < N → (∀ j, 5 ≤ j → j < 11 → eaF (crF g (ofF (poF (keepF S) (L A)) (L A 0)) (L A)) (L i) j = L i j) ∧ (∀ j, 1 ≤ j → j < 5 → -64 ≤ eaF (crF g (ofF (poF (keepF S) (L A)) (L A 0)) (L A)) (L i) j - L i j ∧ eaF (crF g (ofF (poF (keepF S) (L A)) (L A 0)) (L A)) (L i) j - L i j ≤ 64) ∧ eaF (crF g (ofF (poF (keepF S) (L A)) (L A 0)) (L A)) (L i) 0 = L i 0 ∧ (∀ j, 1 ≤ j → j < 5 → -1073741840 ≤ L i j ∧ L i j ≤ 1073741840) from fun i hi => by
      obtain ⟨SA, tA, eA⟩ := OK.out.of A hA
      obtain ⟨SI, tI, eI⟩ := OK.out.of i hi
      have c := calm_out GG.out (keepF S) SA SI (L A 0) tA tI
      rw [← eA, ← eI] at c
      refine ⟨c.1, c.2.1, c.2.2, fun j h1 h2 => ?_⟩
      have u := (of_unit SI tI).1 (j - 1) (by omega)
      rw [← eI] at u
      simp only [show 1 + (j - 1) = j by omega] at u
      exact u)
    obtain ⟨O, hO⟩ : ∃ x, L A = x := ⟨_, rfl⟩
    rw [hO] at CO HK HC
    have HO := Lib.hid hO
    clear hO
    have NN := Lib.hid (S0.out.putO O)
    refine wp_region_lit ?_
    refine wpList_val (v := ?_) rfl ?_ ?_
    rotate_left
    · (go_simp; (try (first | with_reducible rfl | (constructor <;> with_reducible rfl))))
    (try simp only [Act.put, nA, nB, nC])
    refine wpList_val (v := ?_) rfl ?_ ?_
    rotate_left
    · (go_simp; (try (first | with_reducible rfl | (constructor <;> with_reducible rfl))))
    (try simp only [Act.put, nA, nB, nC])
    refine wpList_val (v := ?_) rfl ?_ ?_
    rotate_left
    · (go_simp; (try (first | with_reducible rfl | (constructor <;> with_reducible rfl))))
    (try simp only [Act.put, nA, nB, nC])
    refine wpList_val (v := ?_) rfl ?_ ?_
    rotate_left
    · (refine Eq.trans (run_load_out (.tmp 49) (by rfl) gl (A * 11) (by rfl) O CO.out) ?_; with_reducible rfl)
    (try simp only [Act.put, nA, nB, nC])
    refine wpList_act (v := ?_) (w' := ?_) rfl ?_ ?_
    rotate_left 2
    · (go_simp; (try (first | with_reducible rfl | (constructor <;> with_reducible rfl))))
    (try simp only [Act.put, nA, nB, nC])
    refine wpList_done (w' := ?_) rfl ?_ ?_
    rotate_left
    · (refine Eq.trans (run_store_row 49 (.tmp 14) (.tmp 50) (by rfl) (W0.heap.size) (by rfl) (by rfl) NN.out.1 (iou.trans rfl)) ?_; with_reducible rfl)
    (try simp only [Act.put, nA, nB, nC])
    refine wpList_nil ?_
    have S1 := Lib.hid NN.out.2
    generalize (W0.alloc (.cells #[.int .i64 0, .int .i64 0, .int .i64 0, .int .i64 0, .int .i64 0, .int .i64 0, .int .i64 0, .int .i64 0, .int .i64 0, .int .i64 0, .int .i64 0] 49)).setRow W0.heap.size (arrv 11 O) = W1 at *
    obtain ⟨b14, hb14⟩ : ∃ x, W0.heap.size = x := ⟨_, rfl⟩
    rw [hb14] at S1 ⊢
    clear hb14 NN S0 CO
    obtain ⟨TT, hTT⟩ : ∃ x, ten (O 1) (O 2) (O 3) (O 4) (O 5) (O 6) (O 7) (O 8) (O 9) (O 10) = x := ⟨_, rfl⟩
    have HT := Lib.hid hTT
    have HF := Lib.hid (show withF (keepF S) 0 10 (fun i => TT (0 + i)) = poF (keepF S) O by rw [← hTT]; exact with_po _ _)
    clear hTT
    obtain ⟨KS, hKS⟩ : ∃ x, keepF S = x := ⟨_, rfl⟩
    rw [hKS] at HF HC
    have EK := Lib.hid hKS
    clear hKS
    obtain ⟨FF, hFF⟩ : ∃ x, poF KS O = x := ⟨_, rfl⟩
    rw [hFF] at HF HC
    clear hFF
    obtain ⟨H1, hH1⟩ : ∃ x, (false || keepH S) = x := ⟨_, rfl⟩
    have EH := Lib.hid hH1
    clear hH1
    go_upto_region 13 with fail
    have HS := Lib.hid S1.out.drew
    clear S1
    (try simp only [Act.put])
    go_cut [15] from 51 to 86 (fun s15 wx => ∃ b15, s15 = .pointer (some ⟨b15, 0, none⟩) ∧ Hid (FiR bc H1 pb z g v N L [⟨b15, 32, 24, FF⟩, ⟨b14, 49, 11, O⟩, ⟨w.heap.size, 32, 24, S⟩] [⟨gl, N, L⟩] w wx))
    case first =>
      refine wp_region_M (fun w' => Blk w' b14 49 11 O ∧ Blk w' w.heap.size 32 24 S) 36 (by kernel_rfl) ?_ (fun hHeld => ?_)
      · exact ⟨HS.out.e0, HS.out.e1⟩
      refine wpAnyM_take 0 (v := ?_) rfl (by kernel_rfl) (fun _ _ _ h => h) (Or.inl ⟨by rfl, ?_⟩) (by assumption) ?_
      rotate_left
      · (intro wx hSw; (try dsimp only at hSw); go_simp; (try with_reducible rfl))
      (try simp only [Act.put, nA, nB, nC])
      refine wpAnyM_take 1 (v := ?_) rfl (by kernel_rfl) (fun _ _ _ h => h) (Or.inl ⟨by rfl, ?_⟩) (by assumption) ?_
      rotate_left
      · (intro wx hSw; refine Eq.trans (run_load_row 32 (.tmp 7) (by rfl) (w.heap.size) (by rfl) _ _ _ _ (hSw.2) Try.underlying32 rfl (ist.trans (by rw [arrv_size]))) ?_; with_reducible rfl)
      (try simp only [Act.put, nA, nB, nC])
      refine wpAnyM_take 3 (v := ?_) rfl (by kernel_rfl) (fun _ _ _ h => h) (Or.inl ⟨by rfl, ?_⟩) (by assumption) ?_
      rotate_left
      · (intro wx hSw; (try dsimp only at hSw); go_simp; (try with_reducible rfl))
      (try simp only [Act.put, nA, nB, nC])
      refine wpAnyM_take 4 (v := ?_) rfl (by kernel_rfl) (fun _ _ _ h => h) (Or.inl ⟨by rfl, ?_⟩) (by assumption) ?_
      rotate_left
      · (intro wx hSw; (try dsimp only at hSw); go_simp; (try with_reducible rfl))
      (try simp only [Act.put, nA, nB, nC])
      refine wpAnyM_take 5 (v := ?_) rfl (by kernel_rfl) (fun _ _ _ h => h) (Or.inl ⟨by rfl, ?_⟩) (by assumption) ?_
      rotate_left
      · (intro wx hSw; have q := hSw.1.cell (i := 1) (by decide); go_simp; with_reducible rfl)
      (try simp only [Act.put, nA, nB, nC])
      refine wpAnyM_take 6 (v := ?_) rfl (by kernel_rfl) (fun _ _ _ h => h) (Or.inl ⟨by rfl, ?_⟩) (by assumption) ?_
      rotate_left
      · (intro wx hSw; (try dsimp only at hSw); go_simp; (try with_reducible rfl))
      (try simp only [Act.put, nA, nB, nC])
      refine wpAnyM_take 7 (v := ?_) rfl (by kernel_rfl) (fun _ _ _ h => h) (Or.inl ⟨by rfl, ?_⟩) (by assumption) ?_
      rotate_left
      · (intro wx hSw; (try dsimp only at hSw); go_simp; (try with_reducible rfl))
      (try simp only [Act.put, nA, nB, nC])
      refine wpAnyM_take 8 (v := ?_) rfl (by kernel_rfl) (fun _ _ _ h => h) (Or.inl ⟨by rfl, ?_⟩) (by assumption) ?_
      rotate_left
      · (intro wx hSw; have q := hSw.1.cell (i := 2) (by decide); go_simp; with_reducible rfl)
      (try simp only [Act.put, nA, nB, nC])
      refine wpAnyM_take 9 (v := ?_) rfl (by kernel_rfl) (fun _ _ _ h => h) (Or.inl ⟨by rfl, ?_⟩) (by assumption) ?_
      rotate_left
      · (intro wx hSw; (try dsimp only at hSw); go_simp; (try with_reducible rfl))
      (try simp only [Act.put, nA, nB, nC])
      refine wpAnyM_take 10 (v := ?_) rfl (by kernel_rfl) (fun _ _ _ h => h) (Or.inl ⟨by rfl, ?_⟩) (by assumption) ?_
      rotate_left
      · (intro wx hSw; (try dsimp only at hSw); go_simp; (try with_reducible rfl))
      (try simp only [Act.put, nA, nB, nC])
      refine wpAnyM_take 11 (v := ?_) rfl (by kernel_rfl) (fun _ _ _ h => h) (Or.inl ⟨by rfl, ?_⟩) (by assumption) ?_
      rotate_left
      · (intro wx hSw; have q := hSw.1.cell (i := 3) (by decide); go_simp; with_reducible rfl)
      (try simp only [Act.put, nA, nB, nC])
      refine wpAnyM_take 12 (v := ?_) rfl (by kernel_rfl) (fun _ _ _ h => h) (Or.inl ⟨by rfl, ?_⟩) (by assumption) ?_
      rotate_left
      · (intro wx hSw; (try dsimp only at hSw); go_simp; (try with_reducible rfl))
      (try simp only [Act.put, nA, nB, nC])
      refine wpAnyM_take 13 (v := ?_) rfl (by kernel_rfl) (fun _ _ _ h => h) (Or.inl ⟨by rfl, ?_⟩) (by assumption) ?_
      rotate_left
      · (intro wx hSw; (try dsimp only at hSw); go_simp; (try with_reducible rfl))
      (try simp only [Act.put, nA, nB, nC])
      refine wpAnyM_take 14 (v := ?_) rfl (by kernel_rfl) (fun _ _ _ h => h) (Or.inl ⟨by rfl, ?_⟩) (by assumption) ?_
      rotate_left
      · (intro wx hSw; have q := hSw.1.cell (i := 4) (by decide); go_simp; with_reducible rfl)
      (try simp only [Act.put, nA, nB, nC])
      refine wpAnyM_take 15 (v := ?_) rfl (by kernel_rfl) (fun _ _ _ h => h) (Or.inl ⟨by rfl, ?_⟩) (by assumption) ?_
      rotate_left
      · (intro wx hSw; (try dsimp only at hSw); go_simp; (try with_reducible rfl))
      (try simp only [Act.put, nA, nB, nC])
      refine wpAnyM_take 16 (v := ?_) rfl (by kernel_rfl) (fun _ _ _ h => h) (Or.inl ⟨by rfl, ?_⟩) (by assumption) ?_
      rotate_left
      · (intro wx hSw; (try dsimp only at hSw); go_simp; (try with_reducible rfl))
      (try simp only [Act.put, nA, nB, nC])
      refine wpAnyM_take 17 (v := ?_) rfl (by kernel_rfl) (fun _ _ _ h => h) (Or.inl ⟨by rfl, ?_⟩) (by assumption) ?_
      rotate_left
      · (intro wx hSw; have q := hSw.1.cell (i := 5) (by decide); go_simp; with_reducible rfl)
      (try simp only [Act.put, nA, nB, nC])
      refine wpAnyM_take 18 (v := ?_) rfl (by kernel_rfl) (fun _ _ _ h => h) (Or.inl ⟨by rfl, ?_⟩) (by assumption) ?_
      rotate_left
      · (intro wx hSw; (try dsimp only at hSw); go_simp; (try with_reducible rfl))
      (try simp only [Act.put, nA, nB, nC])
      refine wpAnyM_take 19 (v := ?_) rfl (by kernel_rfl) (fun _ _ _ h => h) (Or.inl ⟨by rfl, ?_⟩) (by assumption) ?_
      rotate_left
      · (intro wx hSw; (try dsimp only at hSw); go_simp; (try with_reducible rfl))
      (try simp only [Act.put, nA, nB, nC])
      refine wpAnyM_take 20 (v := ?_) rfl (by kernel_rfl) (fun _ _ _ h => h) (Or.inl ⟨by rfl, ?_⟩) (by assumption) ?_
      rotate_left
      · (intro wx hSw; have q := hSw.1.cell (i := 6) (by decide); go_simp; with_reducible rfl)
      (try simp only [Act.put, nA, nB, nC])
      refine wpAnyM_take 21 (v := ?_) rfl (by kernel_rfl) (fun _ _ _ h => h) (Or.inl ⟨by rfl, ?_⟩) (by assumption) ?_
      rotate_left
      · (intro wx hSw; (try dsimp only at hSw); go_simp; (try with_reducible rfl))
      (try simp only [Act.put, nA, nB, nC])
      refine wpAnyM_take 22 (v := ?_) rfl (by kernel_rfl) (fun _ _ _ h => h) (Or.inl ⟨by rfl, ?_⟩) (by assumption) ?_
      rotate_left
      · (intro wx hSw; (try dsimp only at hSw); go_simp; (try with_reducible rfl))
      (try simp only [Act.put, nA, nB, nC])
      refine wpAnyM_take 23 (v := ?_) rfl (by kernel_rfl) (fun _ _ _ h => h) (Or.inl ⟨by rfl, ?_⟩) (by assumption) ?_
      rotate_left
      · (intro wx hSw; have q := hSw.1.cell (i := 7) (by decide); go_simp; with_reducible rfl)
      (try simp only [Act.put, nA, nB, nC])
      refine wpAnyM_take 24 (v := ?_) rfl (by kernel_rfl) (fun _ _ _ h => h) (Or.inl ⟨by rfl, ?_⟩) (by assumption) ?_
      rotate_left
      · (intro wx hSw; (try dsimp only at hSw); go_simp; (try with_reducible rfl))
      (try simp only [Act.put, nA, nB, nC])
      refine wpAnyM_take 25 (v := ?_) rfl (by kernel_rfl) (fun _ _ _ h => h) (Or.inl ⟨by rfl, ?_⟩) (by assumption) ?_
      rotate_left
      · (intro wx hSw; (try dsimp only at hSw); go_simp; (try with_reducible rfl))
      (try simp only [Act.put, nA, nB, nC])
      refine wpAnyM_take 26 (v := ?_) rfl (by kernel_rfl) (fun _ _ _ h => h) (Or.inl ⟨by rfl, ?_⟩) (by assumption) ?_
      rotate_left
      · (intro wx hSw; have q := hSw.1.cell (i := 8) (by decide); go_simp; with_reducible rfl)
      (try simp only [Act.put, nA, nB, nC])
      refine wpAnyM_take 27 (v := ?_) rfl (by kernel_rfl) (fun _ _ _ h => h) (Or.inl ⟨by rfl, ?_⟩) (by assumption) ?_
      rotate_left
      · (intro wx hSw; (try dsimp only at hSw); go_simp; (try with_reducible rfl))
      (try simp only [Act.put, nA, nB, nC])
      refine wpAnyM_take 28 (v := ?_) rfl (by kernel_rfl) (fun _ _ _ h => h) (Or.inl ⟨by rfl, ?_⟩) (by assumption) ?_
      rotate_left
      · (intro wx hSw; (try dsimp only at hSw); go_simp; (try with_reducible rfl))
      (try simp only [Act.put, nA, nB, nC])
      refine wpAnyM_take 29 (v := ?_) rfl (by kernel_rfl) (fun _ _ _ h => h) (Or.inl ⟨by rfl, ?_⟩) (by assumption) ?_
      rotate_left
      · (intro wx hSw; have q := hSw.1.cell (i := 9) (by decide); go_simp; with_reducible rfl)
      (try simp only [Act.put, nA, nB, nC])
      refine wpAnyM_take 30 (v := ?_) rfl (by kernel_rfl) (fun _ _ _ h => h) (Or.inl ⟨by rfl, ?_⟩) (by assumption) ?_
      rotate_left
      · (intro wx hSw; (try dsimp only at hSw); go_simp; (try with_reducible rfl))
      (try simp only [Act.put, nA, nB, nC])
      refine wpAnyM_take 31 (v := ?_) rfl (by kernel_rfl) (fun _ _ _ h => h) (Or.inl ⟨by rfl, ?_⟩) (by assumption) ?_
      rotate_left
      · (intro wx hSw; (try dsimp only at hSw); go_simp; (try with_reducible rfl))
      (try simp only [Act.put, nA, nB, nC])
      refine wpAnyM_take 32 (v := ?_) rfl (by kernel_rfl) (fun _ _ _ h => h) (Or.inl ⟨by rfl, ?_⟩) (by assumption) ?_
      rotate_left
      · (intro wx hSw; have q := hSw.1.cell (i := 10) (by decide); go_simp; with_reducible rfl)
      (try simp only [Act.put, nA, nB, nC])
      refine wpAnyM_threeS 2 33 35 rfl rfl rfl (by kernel_rfl) (fun K hK => ?_) (fun K hK => ?_) (fun K hK => ?_)
      · go_simp
        (refine (keep_any ⟨bc, 0, none⟩ false S _ HS.out.fc HS.out.ff).mono ?_); (rw [EK.out]); rintro e w5 ⟨rfl, hu⟩; (rw [EH.out] at hu); (try (have HX2 := Lib.hid (And.intro (HX.out.1.upd hu HX.out.2) HX.out.2); clear HX; have HX := HX2; clear HX2)); (try (have HA2 := Lib.hid (And.intro (HA.out.1.upd hu HA.out.2.1) HA.out.2); clear HA; have HA := HA2; clear HA2)); have HS2 := Lib.hid (HS.out.upd hu); clear HS hu; have HS := HS2; clear HS2
        (try dsimp only)
        (try simp only [Act.put, nA, nB, nC])
        clear hHeld
        refine hK.out _ _ ?_ (fun hHeld => ?_)
        · exact ⟨HS.out.e0, HS.out.e1⟩
        clear hK K
        (try simp only [Act.put, nA, nB, nC])
        refine wpAnyM_twoS 33 35 rfl rfl (by kernel_rfl) (fun K hK => ?_) (fun K hK => ?_)
        · refine if_pos_of (by rfl) (wp_bsl10i (.tmp 56) (.tmp 59) (.tmp 62) (.tmp 65) (.tmp 68) (.tmp 71) (.tmp 74) (.tmp 77) (.tmp 80) (.tmp 83) rfl rfl rfl rfl rfl rfl rfl rfl rfl rfl rfl ?_); rw [HT.out]; have HT2 := fi_slE HS.out TT _ (by first | (simp; rfl) | rfl); have HX := Lib.hid HT2.2; (try (have HA2 := Lib.hid (And.intro (HA.out.1.below HT2.1.2) HA.out.2); clear HA; have HA := HA2; clear HA2)); have HS2 := Lib.hid HT2.1.1; clear HS HT2; have HS := HS2; clear HS2
          clear hHeld
          refine hK.out _ _ ?_ (fun hHeld => ?_)
          · exact ⟨HS.out.e0, HS.out.e1⟩
          clear hK K
          (try simp only [Act.put, nA, nB, nC])
          refine wpAnyM_twoS 34 35 rfl rfl (by kernel_rfl) (fun K hK => ?_) (fun K hK => ?_)
          · go_simp
            (refine (swith_any KS 0 _ 10 10 (fun i => TT (0 + i)) _ (by decide) (by decide) (by decide) (slc_in HX.out.1 0 10 (by decide))).mono ?_); (rw [HF.out]); rintro e w6 ⟨rfl, hb⟩; (try (have HA2 := Lib.hid (And.intro (HA.out.1.below hb) HA.out.2); clear HA; have HA := HA2; clear HA2)); have HS2 := Lib.hid (HS.out.down hb); clear HS HX hb; have HS := HS2; clear HS2
            (try dsimp only)
            (try simp only [Act.put, nA, nB, nC])
            clear hHeld
            refine hK.out _ _ ?_ (fun hHeld => ?_)
            · exact ⟨HS.out.e0, HS.out.e1⟩
            clear hK K
            (try simp only [Act.put, nA, nB, nC])
            refine wpAnyM_oneS 35 rfl (by kernel_rfl) (fun K hK => ?_)
            go_simp; have HT2 := fi_nsE HS.out _ (by first | (simp; rfl) | rfl); have HA := Lib.hid HT2.2; (try (have HX2 := Lib.hid (And.intro (HX.out.1.below HT2.1.2) HX.out.2); clear HX; have HX := HX2; clear HX2)); have HS2 := Lib.hid HT2.1.1; clear HS HT2; have HS := HS2; clear HS2
            clear hHeld
            refine hK.out _ _ ?_ (fun hHeld => ?_)
            · exact ⟨HS.out.e0, HS.out.e1⟩
            clear hK K
            (try simp only [Act.put, nA, nB, nC])
            refine wpAnyM_doneL 36 rfl (by kernel_rfl) (by rfl) (by kernel_rfl) (run_store_row 32 (.tmp 15) (.tmp 85) rfl _ rfl rfl HA.out.1 (ist.trans rfl)) ?_
            (try simp only [Act.put, nA, nB, nC])
            refine wpAnyM_done (by kernel_rfl) ?_ _
            (have HE := Lib.hid (fi_fillE HS.out HA.out.1 HA.out.2 FF); go_wp2_with fail; go_meet; exact ⟨_, rfl, HE⟩)
          · go_simp; have HT2 := fi_nsE HS.out _ (by first | (simp; rfl) | rfl); have HA := Lib.hid HT2.2; (try (have HX2 := Lib.hid (And.intro (HX.out.1.below HT2.1.2) HX.out.2); clear HX; have HX := HX2; clear HX2)); have HS2 := Lib.hid HT2.1.1; clear HS HT2; have HS := HS2; clear HS2
            clear hHeld
            refine hK.out _ _ ?_ (fun hHeld => ?_)
            · exact ⟨HS.out.e0, HS.out.e1⟩
            clear hK K
            (try simp only [Act.put, nA, nB, nC])
            refine wpAnyM_oneS 34 rfl (by kernel_rfl) (fun K hK => ?_)
            go_simp
            (refine (swith_any KS 0 _ 10 10 (fun i => TT (0 + i)) _ (by decide) (by decide) (by decide) (slc_in HX.out.1 0 10 (by decide))).mono ?_); (rw [HF.out]); rintro e w6 ⟨rfl, hb⟩; (try (have HA2 := Lib.hid (And.intro (HA.out.1.below hb) HA.out.2); clear HA; have HA := HA2; clear HA2)); have HS2 := Lib.hid (HS.out.down hb); clear HS HX hb; have HS := HS2; clear HS2
            (try dsimp only)
            (try simp only [Act.put, nA, nB, nC])
            clear hHeld
            refine hK.out _ _ ?_ (fun hHeld => ?_)
            · exact ⟨HS.out.e0, HS.out.e1⟩
            clear hK K
            (try simp only [Act.put, nA, nB, nC])
            refine wpAnyM_doneL 36 rfl (by kernel_rfl) (by rfl) (by kernel_rfl) (run_store_row 32 (.tmp 15) (.tmp 85) rfl _ rfl rfl HA.out.1 (ist.trans rfl)) ?_
            (try simp only [Act.put, nA, nB, nC])
            refine wpAnyM_done (by kernel_rfl) ?_ _
            (have HE := Lib.hid (fi_fillE HS.out HA.out.1 HA.out.2 FF); go_wp2_with fail; go_meet; exact ⟨_, rfl, HE⟩)
        · go_simp; have HT2 := fi_nsE HS.out _ (by first | (simp; rfl) | rfl); have HA := Lib.hid HT2.2; (try (have HX2 := Lib.hid (And.intro (HX.out.1.below HT2.1.2) HX.out.2); clear HX; have HX := HX2; clear HX2)); have HS2 := Lib.hid HT2.1.1; clear HS HT2; have HS := HS2; clear HS2
          clear hHeld
          refine hK.out _ _ ?_ (fun hHeld => ?_)
          · exact ⟨HS.out.e0, HS.out.e1⟩
          clear hK K
          (try simp only [Act.put, nA, nB, nC])
          refine wpAnyM_oneS 33 rfl (by kernel_rfl) (fun K hK => ?_)
          refine if_pos_of (by rfl) (wp_bsl10i (.tmp 56) (.tmp 59) (.tmp 62) (.tmp 65) (.tmp 68) (.tmp 71) (.tmp 74) (.tmp 77) (.tmp 80) (.tmp 83) rfl rfl rfl rfl rfl rfl rfl rfl rfl rfl rfl ?_); rw [HT.out]; have HT2 := fi_slE HS.out TT _ (by first | (simp; rfl) | rfl); have HX := Lib.hid HT2.2; (try (have HA2 := Lib.hid (And.intro (HA.out.1.below HT2.1.2) HA.out.2); clear HA; have HA := HA2; clear HA2)); have HS2 := Lib.hid HT2.1.1; clear HS HT2; have HS := HS2; clear HS2
          clear hHeld
          refine hK.out _ _ ?_ (fun hHeld => ?_)
          · exact ⟨HS.out.e0, HS.out.e1⟩
          clear hK K
          (try simp only [Act.put, nA, nB, nC])
          refine wpAnyM_oneS 34 rfl (by kernel_rfl) (fun K hK => ?_)
          go_simp
          (refine (swith_any KS 0 _ 10 10 (fun i => TT (0 + i)) _ (by decide) (by decide) (by decide) (slc_in HX.out.1 0 10 (by decide))).mono ?_); (rw [HF.out]); rintro e w6 ⟨rfl, hb⟩; (try (have HA2 := Lib.hid (And.intro (HA.out.1.below hb) HA.out.2); clear HA; have HA := HA2; clear HA2)); have HS2 := Lib.hid (HS.out.down hb); clear HS HX hb; have HS := HS2; clear HS2
          (try dsimp only)
          (try simp only [Act.put, nA, nB, nC])
          clear hHeld
          refine hK.out _ _ ?_ (fun hHeld => ?_)
          · exact ⟨HS.out.e0, HS.out.e1⟩
          clear hK K
          (try simp only [Act.put, nA, nB, nC])
          refine wpAnyM_doneL 36 rfl (by kernel_rfl) (by rfl) (by kernel_rfl) (run_store_row 32 (.tmp 15) (.tmp 85) rfl _ rfl rfl HA.out.1 (ist.trans rfl)) ?_
          (try simp only [Act.put, nA, nB, nC])
          refine wpAnyM_done (by kernel_rfl) ?_ _
          (have HE := Lib.hid (fi_fillE HS.out HA.out.1 HA.out.2 FF); go_wp2_with fail; go_meet; exact ⟨_, rfl, HE⟩)
      · refine if_pos_of (by rfl) (wp_bsl10i (.tmp 56) (.tmp 59) (.tmp 62) (.tmp 65) (.tmp 68) (.tmp 71) (.tmp 74) (.tmp 77) (.tmp 80) (.tmp 83) rfl rfl rfl rfl rfl rfl rfl rfl rfl rfl rfl ?_); rw [HT.out]; have HT2 := fi_slE HS.out TT _ (by first | (simp; rfl) | rfl); have HX := Lib.hid HT2.2; (try (have HA2 := Lib.hid (And.intro (HA.out.1.below HT2.1.2) HA.out.2); clear HA; have HA := HA2; clear HA2)); have HS2 := Lib.hid HT2.1.1; clear HS HT2; have HS := HS2; clear HS2
        clear hHeld
        refine hK.out _ _ ?_ (fun hHeld => ?_)
        · exact ⟨HS.out.e0, HS.out.e1⟩
        clear hK K
        (try simp only [Act.put, nA, nB, nC])
        refine wpAnyM_twoS 2 35 rfl rfl (by kernel_rfl) (fun K hK => ?_) (fun K hK => ?_)
        · go_simp
          (refine (keep_any ⟨bc, 0, none⟩ false S _ HS.out.fc HS.out.ff).mono ?_); (rw [EK.out]); rintro e w5 ⟨rfl, hu⟩; (rw [EH.out] at hu); (try (have HX2 := Lib.hid (And.intro (HX.out.1.upd hu HX.out.2) HX.out.2); clear HX; have HX := HX2; clear HX2)); (try (have HA2 := Lib.hid (And.intro (HA.out.1.upd hu HA.out.2.1) HA.out.2); clear HA; have HA := HA2; clear HA2)); have HS2 := Lib.hid (HS.out.upd hu); clear HS hu; have HS := HS2; clear HS2
          (try dsimp only)
          (try simp only [Act.put, nA, nB, nC])
          clear hHeld
          refine hK.out _ _ ?_ (fun hHeld => ?_)
          · exact ⟨HS.out.e0, HS.out.e1⟩
          clear hK K
          (try simp only [Act.put, nA, nB, nC])
          refine wpAnyM_twoS 34 35 rfl rfl (by kernel_rfl) (fun K hK => ?_) (fun K hK => ?_)
          · go_simp
            (refine (swith_any KS 0 _ 10 10 (fun i => TT (0 + i)) _ (by decide) (by decide) (by decide) (slc_in HX.out.1 0 10 (by decide))).mono ?_); (rw [HF.out]); rintro e w6 ⟨rfl, hb⟩; (try (have HA2 := Lib.hid (And.intro (HA.out.1.below hb) HA.out.2); clear HA; have HA := HA2; clear HA2)); have HS2 := Lib.hid (HS.out.down hb); clear HS HX hb; have HS := HS2; clear HS2
            (try dsimp only)
            (try simp only [Act.put, nA, nB, nC])
            clear hHeld
            refine hK.out _ _ ?_ (fun hHeld => ?_)
            · exact ⟨HS.out.e0, HS.out.e1⟩
            clear hK K
            (try simp only [Act.put, nA, nB, nC])
            refine wpAnyM_oneS 35 rfl (by kernel_rfl) (fun K hK => ?_)
            go_simp; have HT2 := fi_nsE HS.out _ (by first | (simp; rfl) | rfl); have HA := Lib.hid HT2.2; (try (have HX2 := Lib.hid (And.intro (HX.out.1.below HT2.1.2) HX.out.2); clear HX; have HX := HX2; clear HX2)); have HS2 := Lib.hid HT2.1.1; clear HS HT2; have HS := HS2; clear HS2
            clear hHeld
            refine hK.out _ _ ?_ (fun hHeld => ?_)
            · exact ⟨HS.out.e0, HS.out.e1⟩
            clear hK K
            (try simp only [Act.put, nA, nB, nC])
            refine wpAnyM_doneL 36 rfl (by kernel_rfl) (by rfl) (by kernel_rfl) (run_store_row 32 (.tmp 15) (.tmp 85) rfl _ rfl rfl HA.out.1 (ist.trans rfl)) ?_
            (try simp only [Act.put, nA, nB, nC])
            refine wpAnyM_done (by kernel_rfl) ?_ _
            (have HE := Lib.hid (fi_fillE HS.out HA.out.1 HA.out.2 FF); go_wp2_with fail; go_meet; exact ⟨_, rfl, HE⟩)
          · go_simp; have HT2 := fi_nsE HS.out _ (by first | (simp; rfl) | rfl); have HA := Lib.hid HT2.2; (try (have HX2 := Lib.hid (And.intro (HX.out.1.below HT2.1.2) HX.out.2); clear HX; have HX := HX2; clear HX2)); have HS2 := Lib.hid HT2.1.1; clear HS HT2; have HS := HS2; clear HS2
            clear hHeld
            refine hK.out _ _ ?_ (fun hHeld => ?_)
            · exact ⟨HS.out.e0, HS.out.e1⟩
            clear hK K
            (try simp only [Act.put, nA, nB, nC])
            refine wpAnyM_oneS 34 rfl (by kernel_rfl) (fun K hK => ?_)
            go_simp
            (refine (swith_any KS 0 _ 10 10 (fun i => TT (0 + i)) _ (by decide) (by decide) (by decide) (slc_in HX.out.1 0 10 (by decide))).mono ?_); (rw [HF.out]); rintro e w6 ⟨rfl, hb⟩; (try (have HA2 := Lib.hid (And.intro (HA.out.1.below hb) HA.out.2); clear HA; have HA := HA2; clear HA2)); have HS2 := Lib.hid (HS.out.down hb); clear HS HX hb; have HS := HS2; clear HS2
            (try dsimp only)
            (try simp only [Act.put, nA, nB, nC])
            clear hHeld
            refine hK.out _ _ ?_ (fun hHeld => ?_)
            · exact ⟨HS.out.e0, HS.out.e1⟩
            clear hK K
            (try simp only [Act.put, nA, nB, nC])
            refine wpAnyM_doneL 36 rfl (by kernel_rfl) (by rfl) (by kernel_rfl) (run_store_row 32 (.tmp 15) (.tmp 85) rfl _ rfl rfl HA.out.1 (ist.trans rfl)) ?_
            (try simp only [Act.put, nA, nB, nC])
            refine wpAnyM_done (by kernel_rfl) ?_ _
            (have HE := Lib.hid (fi_fillE HS.out HA.out.1 HA.out.2 FF); go_wp2_with fail; go_meet; exact ⟨_, rfl, HE⟩)
        · go_simp; have HT2 := fi_nsE HS.out _ (by first | (simp; rfl) | rfl); have HA := Lib.hid HT2.2; (try (have HX2 := Lib.hid (And.intro (HX.out.1.below HT2.1.2) HX.out.2); clear HX; have HX := HX2; clear HX2)); have HS2 := Lib.hid HT2.1.1; clear HS HT2; have HS := HS2; clear HS2
          clear hHeld
          refine hK.out _ _ ?_ (fun hHeld => ?_)
          · exact ⟨HS.out.e0, HS.out.e1⟩
          clear hK K
          (try simp only [Act.put, nA, nB, nC])
          refine wpAnyM_oneS 2 rfl (by kernel_rfl) (fun K hK => ?_)
          go_simp
          (refine (keep_any ⟨bc, 0, none⟩ false S _ HS.out.fc HS.out.ff).mono ?_); (rw [EK.out]); rintro e w5 ⟨rfl, hu⟩; (rw [EH.out] at hu); (try (have HX2 := Lib.hid (And.intro (HX.out.1.upd hu HX.out.2) HX.out.2); clear HX; have HX := HX2; clear HX2)); (try (have HA2 := Lib.hid (And.intro (HA.out.1.upd hu HA.out.2.1) HA.out.2); clear HA; have HA := HA2; clear HA2)); have HS2 := Lib.hid (HS.out.upd hu); clear HS hu; have HS := HS2; clear HS2
          (try dsimp only)
          (try simp only [Act.put, nA, nB, nC])
          clear hHeld
          refine hK.out _ _ ?_ (fun hHeld => ?_)
          · exact ⟨HS.out.e0, HS.out.e1⟩
          clear hK K
          (try simp only [Act.put, nA, nB, nC])
          refine wpAnyM_oneS 34 rfl (by kernel_rfl) (fun K hK => ?_)
          go_simp
          (refine (swith_any KS 0 _ 10 10 (fun i => TT (0 + i)) _ (by decide) (by decide) (by decide) (slc_in HX.out.1 0 10 (by decide))).mono ?_); (rw [HF.out]); rintro e w6 ⟨rfl, hb⟩; (try (have HA2 := Lib.hid (And.intro (HA.out.1.below hb) HA.out.2); clear HA; have HA := HA2; clear HA2)); have HS2 := Lib.hid (HS.out.down hb); clear HS HX hb; have HS := HS2; clear HS2
          (try dsimp only)
          (try simp only [Act.put, nA, nB, nC])
          clear hHeld
          refine hK.out _ _ ?_ (fun hHeld => ?_)
          · exact ⟨HS.out.e0, HS.out.e1⟩
          clear hK K
          (try simp only [Act.put, nA, nB, nC])
          refine wpAnyM_doneL 36 rfl (by kernel_rfl) (by rfl) (by kernel_rfl) (run_store_row 32 (.tmp 15) (.tmp 85) rfl _ rfl rfl HA.out.1 (ist.trans rfl)) ?_
          (try simp only [Act.put, nA, nB, nC])
          refine wpAnyM_done (by kernel_rfl) ?_ _
          (have HE := Lib.hid (fi_fillE HS.out HA.out.1 HA.out.2 FF); go_wp2_with fail; go_meet; exact ⟨_, rfl, HE⟩)
      · go_simp; have HT2 := fi_nsE HS.out _ (by first | (simp; rfl) | rfl); have HA := Lib.hid HT2.2; (try (have HX2 := Lib.hid (And.intro (HX.out.1.below HT2.1.2) HX.out.2); clear HX; have HX := HX2; clear HX2)); have HS2 := Lib.hid HT2.1.1; clear HS HT2; have HS := HS2; clear HS2
        clear hHeld
        refine hK.out _ _ ?_ (fun hHeld => ?_)
        · exact ⟨HS.out.e0, HS.out.e1⟩
        clear hK K
        (try simp only [Act.put, nA, nB, nC])
        refine wpAnyM_twoS 2 33 rfl rfl (by kernel_rfl) (fun K hK => ?_) (fun K hK => ?_)
        · go_simp
          (refine (keep_any ⟨bc, 0, none⟩ false S _ HS.out.fc HS.out.ff).mono ?_); (rw [EK.out]); rintro e w5 ⟨rfl, hu⟩; (rw [EH.out] at hu); (try (have HX2 := Lib.hid (And.intro (HX.out.1.upd hu HX.out.2) HX.out.2); clear HX; have HX := HX2; clear HX2)); (try (have HA2 := Lib.hid (And.intro (HA.out.1.upd hu HA.out.2.1) HA.out.2); clear HA; have HA := HA2; clear HA2)); have HS2 := Lib.hid (HS.out.upd hu); clear HS hu; have HS := HS2; clear HS2
          (try dsimp only)
          (try simp only [Act.put, nA, nB, nC])
          clear hHeld
          refine hK.out _ _ ?_ (fun hHeld => ?_)
          · exact ⟨HS.out.e0, HS.out.e1⟩
          clear hK K
          (try simp only [Act.put, nA, nB, nC])
          refine wpAnyM_oneS 33 rfl (by kernel_rfl) (fun K hK => ?_)
          refine if_pos_of (by rfl) (wp_bsl10i (.tmp 56) (.tmp 59) (.tmp 62) (.tmp 65) (.tmp 68) (.tmp 71) (.tmp 74) (.tmp 77) (.tmp 80) (.tmp 83) rfl rfl rfl rfl rfl rfl rfl rfl rfl rfl rfl ?_); rw [HT.out]; have HT2 := fi_slE HS.out TT _ (by first | (simp; rfl) | rfl); have HX := Lib.hid HT2.2; (try (have HA2 := Lib.hid (And.intro (HA.out.1.below HT2.1.2) HA.out.2); clear HA; have HA := HA2; clear HA2)); have HS2 := Lib.hid HT2.1.1; clear HS HT2; have HS := HS2; clear HS2
          clear hHeld
          refine hK.out _ _ ?_ (fun hHeld => ?_)
          · exact ⟨HS.out.e0, HS.out.e1⟩
          clear hK K
          (try simp only [Act.put, nA, nB, nC])
          refine wpAnyM_oneS 34 rfl (by kernel_rfl) (fun K hK => ?_)
          go_simp
          (refine (swith_any KS 0 _ 10 10 (fun i => TT (0 + i)) _ (by decide) (by decide) (by decide) (slc_in HX.out.1 0 10 (by decide))).mono ?_); (rw [HF.out]); rintro e w6 ⟨rfl, hb⟩; (try (have HA2 := Lib.hid (And.intro (HA.out.1.below hb) HA.out.2); clear HA; have HA := HA2; clear HA2)); have HS2 := Lib.hid (HS.out.down hb); clear HS HX hb; have HS := HS2; clear HS2
          (try dsimp only)
          (try simp only [Act.put, nA, nB, nC])
          clear hHeld
          refine hK.out _ _ ?_ (fun hHeld => ?_)
          · exact ⟨HS.out.e0, HS.out.e1⟩
          clear hK K
          (try simp only [Act.put, nA, nB, nC])
          refine wpAnyM_doneL 36 rfl (by kernel_rfl) (by rfl) (by kernel_rfl) (run_store_row 32 (.tmp 15) (.tmp 85) rfl _ rfl rfl HA.out.1 (ist.trans rfl)) ?_
          (try simp only [Act.put, nA, nB, nC])
          refine wpAnyM_done (by kernel_rfl) ?_ _
          (have HE := Lib.hid (fi_fillE HS.out HA.out.1 HA.out.2 FF); go_wp2_with fail; go_meet; exact ⟨_, rfl, HE⟩)
        · refine if_pos_of (by rfl) (wp_bsl10i (.tmp 56) (.tmp 59) (.tmp 62) (.tmp 65) (.tmp 68) (.tmp 71) (.tmp 74) (.tmp 77) (.tmp 80) (.tmp 83) rfl rfl rfl rfl rfl rfl rfl rfl rfl rfl rfl ?_); rw [HT.out]; have HT2 := fi_slE HS.out TT _ (by first | (simp; rfl) | rfl); have HX := Lib.hid HT2.2; (try (have HA2 := Lib.hid (And.intro (HA.out.1.below HT2.1.2) HA.out.2); clear HA; have HA := HA2; clear HA2)); have HS2 := Lib.hid HT2.1.1; clear HS HT2; have HS := HS2; clear HS2
          clear hHeld
          refine hK.out _ _ ?_ (fun hHeld => ?_)
          · exact ⟨HS.out.e0, HS.out.e1⟩
          clear hK K
          (try simp only [Act.put, nA, nB, nC])
          refine wpAnyM_oneS 2 rfl (by kernel_rfl) (fun K hK => ?_)
          go_simp
          (refine (keep_any ⟨bc, 0, none⟩ false S _ HS.out.fc HS.out.ff).mono ?_); (rw [EK.out]); rintro e w5 ⟨rfl, hu⟩; (rw [EH.out] at hu); (try (have HX2 := Lib.hid (And.intro (HX.out.1.upd hu HX.out.2) HX.out.2); clear HX; have HX := HX2; clear HX2)); (try (have HA2 := Lib.hid (And.intro (HA.out.1.upd hu HA.out.2.1) HA.out.2); clear HA; have HA := HA2; clear HA2)); have HS2 := Lib.hid (HS.out.upd hu); clear HS hu; have HS := HS2; clear HS2
          (try dsimp only)
          (try simp only [Act.put, nA, nB, nC])
          clear hHeld
          refine hK.out _ _ ?_ (fun hHeld => ?_)
          · exact ⟨HS.out.e0, HS.out.e1⟩
          clear hK K
          (try simp only [Act.put, nA, nB, nC])
          refine wpAnyM_oneS 34 rfl (by kernel_rfl) (fun K hK => ?_)
          go_simp
          (refine (swith_any KS 0 _ 10 10 (fun i => TT (0 + i)) _ (by decide) (by decide) (by decide) (slc_in HX.out.1 0 10 (by decide))).mono ?_); (rw [HF.out]); rintro e w6 ⟨rfl, hb⟩; (try (have HA2 := Lib.hid (And.intro (HA.out.1.below hb) HA.out.2); clear HA; have HA := HA2; clear HA2)); have HS2 := Lib.hid (HS.out.down hb); clear HS HX hb; have HS := HS2; clear HS2
          (try dsimp only)
          (try simp only [Act.put, nA, nB, nC])
          clear hHeld
          refine hK.out _ _ ?_ (fun hHeld => ?_)
          · exact ⟨HS.out.e0, HS.out.e1⟩
          clear hK K
          (try simp only [Act.put, nA, nB, nC])
          refine wpAnyM_doneL 36 rfl (by kernel_rfl) (by rfl) (by kernel_rfl) (run_store_row 32 (.tmp 15) (.tmp 85) rfl _ rfl rfl HA.out.1 (ist.trans rfl)) ?_
          (try simp only [Act.put, nA, nB, nC])
          refine wpAnyM_done (by kernel_rfl) ?_ _
          (have HE := Lib.hid (fi_fillE HS.out HA.out.1 HA.out.2 FF); go_wp2_with fail; go_meet; exact ⟨_, rfl, HE⟩)
    case rest =>
    obtain ⟨b15, rfl, S2⟩ := hcut
    clear HS HT HF
    rename World => wx
    have S3 := Lib.hid S2.out.flag
    go_upto_region 15 with fail
    generalize wx.alloc (.cells #[.bool false] 29) = W3 at *
    obtain ⟨bd, hbd⟩ : ∃ x, wx.heap.size = x := ⟨_, rfl⟩
    rw [hbd] at S3 ⊢
    clear hbd S2
    have P15 := S3.out.e0
    have c14 := S3.out.e1.cell (i := 0) (by decide)
    obtain ⟨tO, htO⟩ : ∃ x, O 0 = x := ⟨_, rfl⟩
    rw [htO] at c14 HK HC
    clear htO
    refine wp_region_lit ?_
    refine wpList_val (v := ?_) rfl ?_ ?_
    rotate_left
    · (go_simp; (try (first | with_reducible rfl | (constructor <;> with_reducible rfl))))
    (try simp only [Act.put, nA, nB, nC])
    refine wpList_val (v := ?_) rfl ?_ ?_
    rotate_left
    · (go_simp; (try (first | with_reducible rfl | (constructor <;> with_reducible rfl))))
    (try simp only [Act.put, nA, nB, nC])
    refine wpList_val (v := ?_) rfl ?_ ?_
    rotate_left
    · refine Eq.trans (run_load_row 32 (.tmp 15) (by rfl) (b15) (by rfl) _ _ _ _ (P15) Try.underlying32 rfl (ist.trans (by rw [arrv_size]))) ?_; with_reducible rfl
    (try simp only [Act.put, nA, nB, nC])
    refine wpList_val (v := ?_) rfl ?_ ?_
    rotate_left
    · (go_simp; (try (first | with_reducible rfl | (constructor <;> with_reducible rfl))))
    (try simp only [Act.put, nA, nB, nC])
    refine wpList_val (v := ?_) rfl ?_ ?_
    rotate_left
    · (go_simp; (try (first | with_reducible rfl | (constructor <;> with_reducible rfl))))
    (try simp only [Act.put, nA, nB, nC])
    refine wpList_step (fun K hK => ?_)
    go_simp
    (refine (corr_ok ⟨bd, 0, none⟩ false pb z g N L v FF tO _ S3.out.fc S3.out.ff S3.out.pd S3.out.ne S3.out.nv (by omega) A HK.out).mono ?_); rintro e w7 ⟨rfl, hr⟩; (rw [HO.out] at hr); have S4 := Lib.hid ((S3.out.ear hr).sub (E' := []) (S' := [⟨gl, N, L⟩]) (by simp) (by simp)); clear hr S3 P15 c14
    (try dsimp only)
    (try simp only [Act.put, nA, nB, nC])
    refine hK _ _ ?_
    clear hK K
    refine wpList_val (v := ?_) rfl ?_ ?_
    rotate_left
    · (go_simp; (try (first | with_reducible rfl | (constructor <;> with_reducible rfl))))
    (try simp only [Act.put, nA, nB, nC])
    refine wpList_nil ?_
    have HD := Lib.hid (show ∀ i, i < N → (∀ j, 5 ≤ j → j < 11 → eaL (crF g (ofF FF tO) O) L N i j = L i j) ∧ (∀ j, 1 ≤ j → j < 5 → -64 ≤ eaL (crF g (ofF FF tO) O) L N i j - L i j ∧ eaL (crF g (ofF FF tO) O) L N i j - L i j ≤ 64) ∧ eaL (crF g (ofF FF tO) O) L N i 0 = L i 0 ∧ (∀ j, 1 ≤ j → j < 5 → -1073741840 ≤ L i j ∧ L i j ≤ 1073741840) from fun i hi => by
      have c := HC.out i hi
      unfold eaL
      simp only [if_pos hi]
      exact c)
    obtain ⟨L2, hL2⟩ : ∃ x, eaL (crF g (ofF FF tO) O) L N = x := ⟨_, rfl⟩
    rw [hL2] at S4 HD
    clear hL2 HC HK
    obtain ⟨H2, hH2⟩ : ∃ x, (false || crH g FF tO O || orB (fun i => eaH (crF g (ofF FF tO) O) (crFH g (ofF FF tO) O) (L i)) N) = x := ⟨_, rfl⟩
    rw [hH2] at S4
    clear hH2
    go_upto_region 17 with fail
    refine wp_region_lit ?_
    refine wpList_val (v := ?_) rfl ?_ ?_
    rotate_left
    · (go_simp; (try (first | with_reducible rfl | (constructor <;> with_reducible rfl))))
    (try simp only [Act.put, nA, nB, nC])
    refine wpList_step (fun K hK => ?_)
    go_simp
    (refine (all_out pb z g N L2 v _ S4.out.pd (by omega)).mono ?_); rintro e w8 ⟨vb, rfl, hb, ho, gb, hv, hg⟩; obtain ⟨cb, rfl, hcb, hS⟩ := S4.out.all hb ho hv hg; have S5 := Lib.hid hS; clear hb ho hv hg hS S4
    (try dsimp only)
    (try simp only [Act.put, nA, nB, nC])
    refine hK _ _ ?_
    clear hK K
    refine wpList_val (v := ?_) rfl ?_ ?_
    rotate_left
    · (go_simp; (try (first | with_reducible rfl | (constructor <;> with_reducible rfl))))
    (try simp only [Act.put, nA, nB, nC])
    refine wpList_nil ?_
    go_upto_region 21 with fail
    go_loopw [18] (fun i wr => ∃ k : Nat, k ≤ N ∧ i = .int .i64 k ∧ Hid (FiR bd H2 pb z g v N L2 [] [⟨gb, N, L2⟩, ⟨gl, N, L⟩] w wr)) (fun i _ => N - (intOf i).toNat)
    case atStart => exact ⟨0, Nat.zero_le _, by go_num, S5⟩
    case round =>
      obtain ⟨k, hk, rfl, R⟩ := hrel
      clear S5
      have k0 : (0 : Int) ≤ (k : Int) := Int.natCast_nonneg _
      by_cases hlt : k < N
      · have d1 : decide (k < N) = true := by simpa using hlt
        have d2 : decide ((k : Int) < (N : Int)) = true := by simpa using hlt
        have k1 : (k : Int) < (N : Int) := by omega
        obtain ⟨h5, h1, h0, hb⟩ := HD.out k hlt
        have CO := Lib.hid (fun (x : World) (s : FiR bd H2 pb z g v N L2 [] [⟨gb, N, L2⟩, ⟨gl, N, L⟩] w x) => And.intro (fun j (hj : j < 11) => s.s1 hlt hj) (fun j (hj : j < 11) => s.s0 hlt hj))
        obtain ⟨X, hX⟩ : ∃ x, L k = x := ⟨_, rfl⟩
        obtain ⟨Y, hY⟩ : ∃ x, L2 k = x := ⟨_, rfl⟩
        simp only [hX, hY] at h5 h1 h0 hb CO
        have H5 := Lib.hid h5
        have H1' := Lib.hid (And.intro h1 hb)
        clear hX hY h5 h1 hb
        obtain ⟨t, ht⟩ : ∃ x, X 0 = x := ⟨_, rfl⟩
        have CT := Lib.hid (fun (x : World) (s : FiR bd H2 pb z g v N L2 [] [⟨gb, N, L2⟩, ⟨gl, N, L⟩] w x) => show x.cell? ⟨gl, k * 11, none⟩ = some (.int .i64 t) ∧ x.cell? ⟨gb, k * 11, none⟩ = some (.int .i64 t) from by
          have a := (CO.out x s).1 0 (by decide)
          have b := (CO.out x s).2 0 (by decide)
          rw [h0, ht] at b
          rw [ht] at a
          exact ⟨a, b⟩)
        clear h0 ht
        have q1 : (t != t) = false := by simp
        go_upto_region 23 with fail
        have HS := Lib.hid R.out.drew
        clear R
        (try simp only [Act.put])
        refine wp_region_M (fun w' => w'.cell? ⟨gl, k * 11, none⟩ = some (.int .i64 t) ∧ w'.cell? ⟨gb, k * 11, none⟩ = some (.int .i64 t) ∧ (∀ j, j < 11 → w'.cell? ⟨gl, k * 11 + j, none⟩ = some (.int .i64 (X j))) ∧ (∀ j, j < 11 → w'.cell? ⟨gb, k * 11 + j, none⟩ = some (.int .i64 (Y j)))) 36 (by kernel_rfl) ?_ (fun hHeld => ?_)
        · exact ⟨(CT.out _ HS.out).1, (CT.out _ HS.out).2, (CO.out _ HS.out).1, (CO.out _ HS.out).2⟩
        refine wpAnyM_takeX [2, 3, 4, 10, 11, 12, 13, 14, 15, 16, 17, 18, 19, 20, 21, 22, 23, 24, 25, 26, 27, 28, 29, 30, 31, 32, 33, 34, 35, 36] 0 (v := ?_) rfl (by kernel_rfl) (fun _ _ _ h => h) (Or.inl ⟨by rfl, ?_⟩) (by assumption) ?_
        rotate_left
        · (intro wx hSw; (try dsimp only at hSw); go_simp; (try with_reducible rfl))
        (try simp only [Act.put, nA, nB, nC])
        refine wpAnyM_takeX [2, 3, 4, 10, 11, 12, 13, 14, 15, 16, 17, 18, 19, 20, 21, 22, 23, 24, 25, 26, 27, 28, 29, 30, 31, 32, 33, 34, 35, 36] 1 (v := ?_) rfl (by kernel_rfl) (fun _ _ _ h => h) (Or.inl ⟨by rfl, ?_⟩) (by assumption) ?_
        rotate_left
        · (intro wx hSw; (try dsimp only at hSw); go_simp; (try with_reducible rfl))
        (try simp only [Act.put, nA, nB, nC])
        refine wpAnyM_takeX [3, 4, 10, 11, 12, 13, 14, 15, 16, 17, 18, 19, 20, 21, 22, 23, 24, 25, 26, 27, 28, 29, 30, 31, 32, 33, 34, 35, 36] 2 (v := ?_) rfl (by kernel_rfl) (fun _ _ _ h => h) (Or.inl ⟨by rfl, ?_⟩) (by assumption) ?_
        rotate_left
        · (intro wx hSw; (try dsimp only at hSw); go_simp; (try with_reducible rfl))
        (try simp only [Act.put, nA, nB, nC])
        refine wpAnyM_takeX [4, 10, 11, 12, 13, 14, 15, 16, 17, 18, 19, 20, 21, 22, 23, 24, 25, 26, 27, 28, 29, 30, 31, 32, 33, 34, 35, 36] 3 (v := ?_) rfl (by kernel_rfl) (fun _ _ _ h => h) (Or.inl ⟨by rfl, ?_⟩) (by assumption) ?_
        rotate_left
        · (intro wx hSw; (try dsimp only at hSw); go_simp; (try with_reducible rfl))
        (try simp only [Act.put, nA, nB, nC])
        refine wpAnyM_takeX [10, 11, 12, 13, 14, 15, 16, 17, 18, 19, 20, 21, 22, 23, 24, 25, 26, 27, 28, 29, 30, 31, 32, 33, 34, 35, 36] 4 (v := ?_) rfl (by kernel_rfl) (fun _ _ _ h => h) (Or.inl ⟨by rfl, ?_⟩) (by assumption) ?_
        rotate_left
        · (intro wx hSw; have q := hSw.1; go_simp; (try with_reducible rfl))
        (try simp only [Act.put, nA, nB, nC])
        refine wpAnyM_takeX [7, 8, 9, 10, 11, 12, 13, 14, 15, 16, 17, 18, 19, 20, 21, 22, 23, 24, 25, 26, 27, 28, 29, 30, 31, 32, 33, 34, 35, 36] 5 (v := ?_) rfl (by kernel_rfl) (fun _ _ _ h => h) (Or.inl ⟨by rfl, ?_⟩) (by assumption) ?_
        rotate_left
        · (intro wx hSw; (try dsimp only at hSw); go_simp; (try with_reducible rfl))
        (try simp only [Act.put, nA, nB, nC])
        refine wpAnyM_takeX [7, 8, 9, 10, 11, 12, 13, 14, 15, 16, 17, 18, 19, 20, 21, 22, 23, 24, 25, 26, 27, 28, 29, 30, 31, 32, 33, 34, 35, 36] 6 (v := ?_) rfl (by kernel_rfl) (fun _ _ _ h => h) (Or.inl ⟨by rfl, ?_⟩) (by assumption) ?_
        rotate_left
        · (intro wx hSw; (try dsimp only at hSw); go_simp; (try with_reducible rfl))
        (try simp only [Act.put, nA, nB, nC])
        refine wpAnyM_takeX [8, 9, 10, 11, 12, 13, 14, 15, 16, 17, 18, 19, 20, 21, 22, 23, 24, 25, 26, 27, 28, 29, 30, 31, 32, 33, 34, 35, 36] 7 (v := ?_) rfl (by kernel_rfl) (fun _ _ _ h => h) (Or.inl ⟨by rfl, ?_⟩) (by assumption) ?_
        rotate_left
        · (intro wx hSw; (try dsimp only at hSw); go_simp; (try with_reducible rfl))
        (try simp only [Act.put, nA, nB, nC])
        refine wpAnyM_takeX [9, 10, 11, 12, 13, 14, 15, 16, 17, 18, 19, 20, 21, 22, 23, 24, 25, 26, 27, 28, 29, 30, 31, 32, 33, 34, 35, 36] 8 (v := ?_) rfl (by kernel_rfl) (fun _ _ _ h => h) (Or.inl ⟨by rfl, ?_⟩) (by assumption) ?_
        rotate_left
        · (intro wx hSw; (try dsimp only at hSw); go_simp; (try with_reducible rfl))
        (try simp only [Act.put, nA, nB, nC])
        refine wpAnyM_takeX [10, 11, 12, 13, 14, 15, 16, 17, 18, 19, 20, 21, 22, 23, 24, 25, 26, 27, 28, 29, 30, 31, 32, 33, 34, 35, 36] 9 (v := ?_) rfl (by kernel_rfl) (fun _ _ _ h => h) (Or.inl ⟨by rfl, ?_⟩) (by assumption) ?_
        rotate_left
        · (intro wx hSw; have q := hSw.2.1; go_simp; (try with_reducible rfl))
        (try simp only [Act.put, nA, nB, nC])
        refine wpAnyM_takeX [11, 12, 13, 14, 15, 16, 17, 18, 19, 20, 21, 22, 23, 24, 25, 26, 27, 28, 29, 30, 31, 32, 33, 34, 35, 36] 10 (v := ?_) rfl (by kernel_rfl) (fun _ _ _ h => h) (Or.inl ⟨by rfl, ?_⟩) (by assumption) ?_
        rotate_left
        · (intro wx hSw; (try dsimp only at hSw); go_simp; (try with_reducible rfl))
        (try simp only [Act.put, nA, nB, nC])
        refine wpAnyM_takeX [12, 13, 14, 15, 16, 17, 18, 19, 20, 21, 22, 23, 24, 25, 26, 27, 28, 29, 30, 31, 32, 33, 34, 35, 36] 11 (v := ?_) rfl (by kernel_rfl) (fun _ _ _ h => h) (Or.inl ⟨by rfl, ?_⟩) (by assumption) ?_
        rotate_left
        · (intro wx hSw; (try dsimp only at hSw); go_simp; (try with_reducible rfl))
        (try simp only [Act.put, nA, nB, nC])
        first | (refine wpAnyM_takeX [14, 15, 16, 22, 23, 24, 25, 26, 27, 28, 29, 30, 31, 32, 33, 34, 35, 36] 12 (v := ?_) rfl (by kernel_rfl) (fun _ _ _ h => h) (Or.inl ⟨by rfl, ?_⟩) (by assumption) ?_; rotate_left; focus ((intro wx hSw; (try dsimp only at hSw); go_simp; (try with_reducible rfl)))) | (refine wpAnyM_takeX [14, 15, 16, 22, 23, 24, 25, 26, 27, 28, 29, 30, 31, 32, 33, 34, 35, 36] 12 rfl (by kernel_rfl) (fun _ _ _ h => h) (Or.inr ⟨by rfl, rfl⟩) (by assumption) ?_)
        (try simp only [Act.put, nA, nB, nC])
        first | (refine wpAnyM_takeX [14, 15, 16, 22, 23, 24, 25, 26, 27, 28, 29, 30, 31, 32, 33, 34, 35, 36] 13 (v := ?_) rfl (by kernel_rfl) (fun _ _ _ h => h) (Or.inl ⟨by rfl, ?_⟩) (by assumption) ?_; rotate_left; focus ((intro wx hSw; (try dsimp only at hSw); go_simp; (try with_reducible rfl)))) | (refine wpAnyM_takeX [14, 15, 16, 22, 23, 24, 25, 26, 27, 28, 29, 30, 31, 32, 33, 34, 35, 36] 13 rfl (by kernel_rfl) (fun _ _ _ h => h) (Or.inr ⟨by rfl, rfl⟩) (by assumption) ?_)
        (try simp only [Act.put, nA, nB, nC])
        first | (refine wpAnyM_takeX [15, 16, 22, 23, 24, 25, 26, 27, 28, 29, 30, 31, 32, 33, 34, 35, 36] 14 (v := ?_) rfl (by kernel_rfl) (fun _ _ _ h => h) (Or.inl ⟨by rfl, ?_⟩) (by assumption) ?_; rotate_left; focus ((intro wx hSw; (try dsimp only at hSw); go_simp; (try with_reducible rfl)))) | (refine wpAnyM_takeX [15, 16, 22, 23, 24, 25, 26, 27, 28, 29, 30, 31, 32, 33, 34, 35, 36] 14 rfl (by kernel_rfl) (fun _ _ _ h => h) (Or.inr ⟨by rfl, rfl⟩) (by assumption) ?_)
        (try simp only [Act.put, nA, nB, nC])
        first | (refine wpAnyM_takeX [16, 22, 23, 24, 25, 26, 27, 28, 29, 30, 31, 32, 33, 34, 35, 36] 15 (v := ?_) rfl (by kernel_rfl) (fun _ _ _ h => h) (Or.inl ⟨by rfl, ?_⟩) (by assumption) ?_; rotate_left; focus ((intro wx hSw; (try dsimp only at hSw); go_simp; (try with_reducible rfl)))) | (refine wpAnyM_takeX [16, 22, 23, 24, 25, 26, 27, 28, 29, 30, 31, 32, 33, 34, 35, 36] 15 rfl (by kernel_rfl) (fun _ _ _ h => h) (Or.inr ⟨by rfl, rfl⟩) (by assumption) ?_)
        (try simp only [Act.put, nA, nB, nC])
        first | (refine wpAnyM_takeX [22, 23, 24, 25, 26, 27, 28, 29, 30, 31, 32, 33, 34, 35, 36] 16 (v := ?_) rfl (by kernel_rfl) (fun _ _ _ h => h) (Or.inl ⟨by rfl, ?_⟩) (by assumption) ?_; rotate_left; focus ((intro wx hSw; refine Eq.trans (run_load_v3 (.tmp 123) (by rfl) gl (k * 11 + 5) (by rfl) (fun j => X (5 + j)) (fun j hj => by rw [Nat.add_assoc]; exact hSw.2.2.1 (5 + j) (by omega))) ?_; with_reducible rfl))) | (refine wpAnyM_takeX [22, 23, 24, 25, 26, 27, 28, 29, 30, 31, 32, 33, 34, 35, 36] 16 rfl (by kernel_rfl) (fun _ _ _ h => h) (Or.inr ⟨by rfl, rfl⟩) (by assumption) ?_)
        (try simp only [Act.put, nA, nB, nC])
        first | (refine wpAnyM_takeX [19, 20, 21, 22, 23, 24, 25, 26, 27, 28, 29, 30, 31, 32, 33, 34, 35, 36] 17 (v := ?_) rfl (by kernel_rfl) (fun _ _ _ h => h) (Or.inl ⟨by rfl, ?_⟩) (by assumption) ?_; rotate_left; focus ((intro wx hSw; (try dsimp only at hSw); go_simp; (try with_reducible rfl)))) | (refine wpAnyM_takeX [19, 20, 21, 22, 23, 24, 25, 26, 27, 28, 29, 30, 31, 32, 33, 34, 35, 36] 17 rfl (by kernel_rfl) (fun _ _ _ h => h) (Or.inr ⟨by rfl, rfl⟩) (by assumption) ?_)
        (try simp only [Act.put, nA, nB, nC])
        first | (refine wpAnyM_takeX [19, 20, 21, 22, 23, 24, 25, 26, 27, 28, 29, 30, 31, 32, 33, 34, 35, 36] 18 (v := ?_) rfl (by kernel_rfl) (fun _ _ _ h => h) (Or.inl ⟨by rfl, ?_⟩) (by assumption) ?_; rotate_left; focus ((intro wx hSw; (try dsimp only at hSw); go_simp; (try with_reducible rfl)))) | (refine wpAnyM_takeX [19, 20, 21, 22, 23, 24, 25, 26, 27, 28, 29, 30, 31, 32, 33, 34, 35, 36] 18 rfl (by kernel_rfl) (fun _ _ _ h => h) (Or.inr ⟨by rfl, rfl⟩) (by assumption) ?_)
        (try simp only [Act.put, nA, nB, nC])
        first | (refine wpAnyM_takeX [20, 21, 22, 23, 24, 25, 26, 27, 28, 29, 30, 31, 32, 33, 34, 35, 36] 19 (v := ?_) rfl (by kernel_rfl) (fun _ _ _ h => h) (Or.inl ⟨by rfl, ?_⟩) (by assumption) ?_; rotate_left; focus ((intro wx hSw; (try dsimp only at hSw); go_simp; (try with_reducible rfl)))) | (refine wpAnyM_takeX [20, 21, 22, 23, 24, 25, 26, 27, 28, 29, 30, 31, 32, 33, 34, 35, 36] 19 rfl (by kernel_rfl) (fun _ _ _ h => h) (Or.inr ⟨by rfl, rfl⟩) (by assumption) ?_)
        (try simp only [Act.put, nA, nB, nC])
        first | (refine wpAnyM_takeX [21, 22, 23, 24, 25, 26, 27, 28, 29, 30, 31, 32, 33, 34, 35, 36] 20 (v := ?_) rfl (by kernel_rfl) (fun _ _ _ h => h) (Or.inl ⟨by rfl, ?_⟩) (by assumption) ?_; rotate_left; focus ((intro wx hSw; (try dsimp only at hSw); go_simp; (try with_reducible rfl)))) | (refine wpAnyM_takeX [21, 22, 23, 24, 25, 26, 27, 28, 29, 30, 31, 32, 33, 34, 35, 36] 20 rfl (by kernel_rfl) (fun _ _ _ h => h) (Or.inr ⟨by rfl, rfl⟩) (by assumption) ?_)
        (try simp only [Act.put, nA, nB, nC])
        first | (refine wpAnyM_takeX [22, 23, 24, 25, 26, 27, 28, 29, 30, 31, 32, 33, 34, 35, 36] 21 (v := ?_) rfl (by kernel_rfl) (fun _ _ _ h => h) (Or.inl ⟨by rfl, ?_⟩) (by assumption) ?_; rotate_left; focus ((intro wx hSw; refine Eq.trans (run_load_v3 (.tmp 128) (by rfl) gb (k * 11 + 5) (by rfl) (fun j => Y (5 + j)) (fun j hj => by rw [Nat.add_assoc]; exact hSw.2.2.2 (5 + j) (by omega))) ?_; with_reducible rfl))) | (refine wpAnyM_takeX [22, 23, 24, 25, 26, 27, 28, 29, 30, 31, 32, 33, 34, 35, 36] 21 rfl (by kernel_rfl) (fun _ _ _ h => h) (Or.inr ⟨by rfl, rfl⟩) (by assumption) ?_)
        (try simp only [Act.put, nA, nB, nC])
        first | (refine wpAnyM_takeX [23, 24, 25, 26, 27, 28, 29, 30, 31, 32, 33, 34, 35, 36] 22 (v := ?_) rfl (by kernel_rfl) (fun _ _ _ h => h) (Or.inl ⟨by rfl, ?_⟩) (by assumption) ?_; rotate_left; focus ((intro wx hSw; refine Eq.trans (run_op_neqVec Try.underlying43 (by kernel_rfl) (.tmp 124) (.tmp 129) (by rfl) (by rfl) (by rfl) (b := true) (eqB_iff.2 fun j hj => (H5.out (5 + j) (by omega) (by omega)).symm)) ?_; with_reducible rfl))) | (refine wpAnyM_takeX [23, 24, 25, 26, 27, 28, 29, 30, 31, 32, 33, 34, 35, 36] 22 rfl (by kernel_rfl) (fun _ _ _ h => h) (Or.inr ⟨by rfl, rfl⟩) (by assumption) ?_)
        (try simp only [Act.put, nA, nB, nC])
        refine wpAnyM_takeX [24, 25, 26, 27, 28, 29, 30, 31, 32, 33, 34, 35, 36] 23 (v := ?_) rfl (by kernel_rfl) (fun _ _ _ h => h) (Or.inl ⟨by rfl, ?_⟩) (by assumption) ?_
        rotate_left
        · (intro wx hSw; (try dsimp only at hSw); go_simp; (try with_reducible rfl))
        (try simp only [Act.put, nA, nB, nC])
        refine wpAnyM_take 24 (v := ?_) rfl (by kernel_rfl) (fun _ _ _ h => h) (Or.inl ⟨by rfl, ?_⟩) (by assumption) ?_
        rotate_left
        · (intro wx hSw; (try dsimp only at hSw); go_simp; (try with_reducible rfl))
        (try simp only [Act.put, nA, nB, nC])
        first | (refine wpAnyM_takeX [27, 28, 29, 35, 36] 25 (v := ?_) rfl (by kernel_rfl) (fun _ _ _ h => h) (Or.inl ⟨by rfl, ?_⟩) (by assumption) ?_; rotate_left; focus ((intro wx hSw; (try dsimp only at hSw); go_simp; (try with_reducible rfl)))) | (refine wpAnyM_takeX [27, 28, 29, 35, 36] 25 rfl (by kernel_rfl) (fun _ _ _ h => h) (Or.inr ⟨by rfl, rfl⟩) (by assumption) ?_)
        (try simp only [Act.put, nA, nB, nC])
        first | (refine wpAnyM_takeX [27, 28, 29, 35, 36] 26 (v := ?_) rfl (by kernel_rfl) (fun _ _ _ h => h) (Or.inl ⟨by rfl, ?_⟩) (by assumption) ?_; rotate_left; focus ((intro wx hSw; (try dsimp only at hSw); go_simp; (try with_reducible rfl)))) | (refine wpAnyM_takeX [27, 28, 29, 35, 36] 26 rfl (by kernel_rfl) (fun _ _ _ h => h) (Or.inr ⟨by rfl, rfl⟩) (by assumption) ?_)
        (try simp only [Act.put, nA, nB, nC])
        first | (refine wpAnyM_takeX [28, 29, 35, 36] 27 (v := ?_) rfl (by kernel_rfl) (fun _ _ _ h => h) (Or.inl ⟨by rfl, ?_⟩) (by assumption) ?_; rotate_left; focus ((intro wx hSw; (try dsimp only at hSw); go_simp; (try with_reducible rfl)))) | (refine wpAnyM_takeX [28, 29, 35, 36] 27 rfl (by kernel_rfl) (fun _ _ _ h => h) (Or.inr ⟨by rfl, rfl⟩) (by assumption) ?_)
        (try simp only [Act.put, nA, nB, nC])
        first | (refine wpAnyM_takeX [29, 35, 36] 28 (v := ?_) rfl (by kernel_rfl) (fun _ _ _ h => h) (Or.inl ⟨by rfl, ?_⟩) (by assumption) ?_; rotate_left; focus ((intro wx hSw; (try dsimp only at hSw); go_simp; (try with_reducible rfl)))) | (refine wpAnyM_takeX [29, 35, 36] 28 rfl (by kernel_rfl) (fun _ _ _ h => h) (Or.inr ⟨by rfl, rfl⟩) (by assumption) ?_)
        (try simp only [Act.put, nA, nB, nC])
        first | (refine wpAnyM_takeX [35, 36] 29 (v := ?_) rfl (by kernel_rfl) (fun _ _ _ h => h) (Or.inl ⟨by rfl, ?_⟩) (by assumption) ?_; rotate_left; focus ((intro wx hSw; refine Eq.trans (run_load_v3 (.tmp 136) (by rfl) gl (k * 11 + 8) (by rfl) (fun j => X (8 + j)) (fun j hj => by rw [Nat.add_assoc]; exact hSw.2.2.1 (8 + j) (by omega))) ?_; with_reducible rfl))) | (refine wpAnyM_takeX [35, 36] 29 rfl (by kernel_rfl) (fun _ _ _ h => h) (Or.inr ⟨by rfl, rfl⟩) (by assumption) ?_)
        (try simp only [Act.put, nA, nB, nC])
        first | (refine wpAnyM_takeX [32, 33, 34, 35, 36] 30 (v := ?_) rfl (by kernel_rfl) (fun _ _ _ h => h) (Or.inl ⟨by rfl, ?_⟩) (by assumption) ?_; rotate_left; focus ((intro wx hSw; (try dsimp only at hSw); go_simp; (try with_reducible rfl)))) | (refine wpAnyM_takeX [32, 33, 34, 35, 36] 30 rfl (by kernel_rfl) (fun _ _ _ h => h) (Or.inr ⟨by rfl, rfl⟩) (by assumption) ?_)
        (try simp only [Act.put, nA, nB, nC])
        first | (refine wpAnyM_takeX [32, 33, 34, 35, 36] 31 (v := ?_) rfl (by kernel_rfl) (fun _ _ _ h => h) (Or.inl ⟨by rfl, ?_⟩) (by assumption) ?_; rotate_left; focus ((intro wx hSw; (try dsimp only at hSw); go_simp; (try with_reducible rfl)))) | (refine wpAnyM_takeX [32, 33, 34, 35, 36] 31 rfl (by kernel_rfl) (fun _ _ _ h => h) (Or.inr ⟨by rfl, rfl⟩) (by assumption) ?_)
        (try simp only [Act.put, nA, nB, nC])
        first | (refine wpAnyM_takeX [33, 34, 35, 36] 32 (v := ?_) rfl (by kernel_rfl) (fun _ _ _ h => h) (Or.inl ⟨by rfl, ?_⟩) (by assumption) ?_; rotate_left; focus ((intro wx hSw; (try dsimp only at hSw); go_simp; (try with_reducible rfl)))) | (refine wpAnyM_takeX [33, 34, 35, 36] 32 rfl (by kernel_rfl) (fun _ _ _ h => h) (Or.inr ⟨by rfl, rfl⟩) (by assumption) ?_)
        (try simp only [Act.put, nA, nB, nC])
        first | (refine wpAnyM_takeX [34, 35, 36] 33 (v := ?_) rfl (by kernel_rfl) (fun _ _ _ h => h) (Or.inl ⟨by rfl, ?_⟩) (by assumption) ?_; rotate_left; focus ((intro wx hSw; (try dsimp only at hSw); go_simp; (try with_reducible rfl)))) | (refine wpAnyM_takeX [34, 35, 36] 33 rfl (by kernel_rfl) (fun _ _ _ h => h) (Or.inr ⟨by rfl, rfl⟩) (by assumption) ?_)
        (try simp only [Act.put, nA, nB, nC])
        first | (refine wpAnyM_takeX [35, 36] 34 (v := ?_) rfl (by kernel_rfl) (fun _ _ _ h => h) (Or.inl ⟨by rfl, ?_⟩) (by assumption) ?_; rotate_left; focus ((intro wx hSw; refine Eq.trans (run_load_v3 (.tmp 141) (by rfl) gb (k * 11 + 8) (by rfl) (fun j => Y (8 + j)) (fun j hj => by rw [Nat.add_assoc]; exact hSw.2.2.2 (8 + j) (by omega))) ?_; with_reducible rfl))) | (refine wpAnyM_takeX [35, 36] 34 rfl (by kernel_rfl) (fun _ _ _ h => h) (Or.inr ⟨by rfl, rfl⟩) (by assumption) ?_)
        (try simp only [Act.put, nA, nB, nC])
        first | (refine wpAnyM_take 35 (v := ?_) rfl (by kernel_rfl) (fun _ _ _ h => h) (Or.inl ⟨by rfl, ?_⟩) (by assumption) ?_; rotate_left; focus ((intro wx hSw; refine Eq.trans (run_op_neqVec Try.underlying43 (by kernel_rfl) (.tmp 137) (.tmp 142) (by rfl) (by rfl) (by rfl) (b := true) (eqB_iff.2 fun j hj => (H5.out (8 + j) (by omega) (by omega)).symm)) ?_; with_reducible rfl))) | (refine wpAnyM_take 35 rfl (by kernel_rfl) (fun _ _ _ h => h) (Or.inr ⟨by rfl, rfl⟩) (by assumption) ?_)
        (try simp only [Act.put, nA, nB, nC])
        refine wpAnyM_one 36 rfl (by kernel_rfl) (fun K hK => ?_)
        go_simp
        refine hK.out _ _ (.inl (by kernel_rfl)) (fun _ => ?_)
        clear hK K
        (try simp only [Act.put, nA, nB, nC])
        refine wpAnyM_done (by kernel_rfl) ?_ _
        go_upto_region 26 with fail
        go_loopw [19] (fun i wr => ∃ j : Nat, j ≤ 4 ∧ i = .int .i64 j ∧ Hid (FiR bd H2 pb z g v N L2 [] [⟨gb, N, L2⟩, ⟨gl, N, L⟩] w wr)) (fun i _ => 4 - (intOf i).toNat)
        case atStart => exact ⟨0, by omega, rfl, HS⟩
        case round =>
          obtain ⟨j, hj, rfl, R⟩ := hrel
          clear HS
          have j0 : (0 : Int) ≤ (j : Int) := Int.natCast_nonneg _
          by_cases hjl : j < 4
          · have g1 : decide ((j : Int) < 4) = true := by simp; omega
            have j1 : (j : Int) < 4 := by omega
            have c1 := (CO.out _ R.out).1 (1 + j) (by omega)
            have c2 := (CO.out _ R.out).2 (1 + j) (by omega)
            rw [← Nat.add_assoc] at c1 c2
            have hh := H1'.out.1 (1 + j) (by omega) (by omega)
            have hi := H1'.out.2 (1 + j) (by omega) (by omega)
            obtain ⟨x, hx⟩ : ∃ x, X (1 + j) = x := ⟨_, rfl⟩
            obtain ⟨y, hy⟩ : ∃ x, Y (1 + j) = x := ⟨_, rfl⟩
            rw [hx] at c1 hh hi
            rw [hy] at c2 hh
            clear hx hy
            have u1 : IntKind.i64.wrap (y - x) = y - x := IntWalk.i64_in _ (by omega)
            have u2 : IntKind.i64.wrap (x - y) = x - y := IntWalk.i64_in _ (by omega)
            have z1 : decide (64 < y - x) = false := by simp; omega
            have z2 : decide (64 < x - y) = false := by simp; omega
            clear hh hi
            go_upto_region 28 with fail
            go_quiet (fail)
            go_wp2_with fail
            go_roundw
            case rel => exact ⟨j + 1, by omega, by go_num, Lib.hid (R.out.down (below_drewN (Below.refl _ _) _))⟩
            case measure => simp [intOf]; omega
          · obtain rfl : j = 4 := by omega
            have g1 : decide (((4 : Nat) : Int) < 4) = false := by decide
            go_wp2_with fail
            go_roundw
            case rel => exact ⟨k + 1, by omega, by go_num, R⟩
            case measure => simp [intOf]; omega
      · obtain rfl : k = N := by omega
        have d1 : decide (k < k) = false := by simp
        have d2 : decide ((k : Int) < (k : Int)) = false := by simp
        go_wp2_with fail
        go_ret
        exact ⟨rfl, R.out.below⟩
  · have L1b := L1
    refine wp_region_lit ?_
    refine wpList_val (v := ?_) rfl ?_ ?_
    rotate_left
    · (go_simp; (try (first | with_reducible rfl | (constructor <;> with_reducible rfl))))
    (try simp only [Act.put, nA, nB, nC])
    refine wpList_val (v := ?_) rfl ?_ ?_
    rotate_left
    · (go_simp; (try (first | with_reducible rfl | (constructor <;> with_reducible rfl))))
    (try simp only [Act.put, nA, nB, nC])
    refine wpList_val (v := ?_) rfl ?_ ?_
    rotate_left
    · refine Eq.trans (run_load_row 32 (.tmp 7) (by rfl) (w.heap.size) (by rfl) _ _ _ _ (P0) Try.underlying32 rfl (ist.trans (by rw [arrv_size]))) ?_; with_reducible rfl
    (try simp only [Act.put, nA, nB, nC])
    refine wpList_val (v := ?_) rfl ?_ ?_
    rotate_left
    · (go_simp; (try (first | with_reducible rfl | (constructor <;> with_reducible rfl))))
    (try simp only [Act.put, nA, nB, nC])
    refine wpList_step (fun K hK => ?_)
    go_simp
    (refine (fill_nil z g S q n cp _ hg).mono ?_); rintro e w2 ⟨rfl, hb⟩; have L2 := Lib.hid (L1.out.down hb); clear hb L1 L1b P0
    (try dsimp only)
    (try simp only [Act.put, nA, nB, nC])
    refine hK _ _ ?_
    clear hK K
    refine wpList_val (v := ?_) rfl ?_ ?_
    rotate_left
    · (go_simp; (try (first | with_reducible rfl | (constructor <;> with_reducible rfl))))
    (try simp only [Act.put, nA, nB, nC])
    refine wpList_nil ?_
    clear hg
    go_wp2_with fail
    go_ret
    exact ⟨rfl, L2.out.below⟩
end Go.Proofs.Ytpoiobgpggiebaa
