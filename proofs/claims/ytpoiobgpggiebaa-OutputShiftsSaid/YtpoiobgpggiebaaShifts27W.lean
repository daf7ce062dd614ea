/- The walk of OutputShifts. -/
import Derived.Test.YtpoiobgpggiebaaS01
namespace Go.Proofs.Ytpoiobgpggiebaa
open Go.RowKit
open Go
set_option maxRecDepth 100000
/-- A predictor, and blocks of the call's own below it. -/
structure G7 (pb : Nat) (z g : Int) (v : Value) (n : Nat) (L : Nat → Nat → Int) (E : List Lx) (w wr : World) : Prop where
  below : Below w.heap.size w wr
  pd : PdR wr pb z g v n L
  lp : w.heap.size + 2 ≤ pb
  lv : ∀ k, v.ownBlock = some k → w.heap.size + 2 ≤ k
  ex : ∀ e, e ∈ E → Blk wr e.b e.T e.n e.F ∧ w.heap.size ≤ e.b ∧ e.b < w.heap.size + 2
section
variable {pb : Nat} {z g : Int} {v : Value} {n : Nat} {L : Nat → Nat → Int} {E : List Lx} {w wr w' w1 : World}
theorem G7.down (s : G7 pb z g v n L E w wr) (k : Below wr.heap.size wr w') : G7 pb z g v n L E w w' :=
  ⟨s.below.trans (k.mono s.below.size), s.pd.below k, s.lp, s.lv, fun e he => ⟨(s.ex e he).1.below k, (s.ex e he).2⟩⟩
theorem G7.row {b T m : Nat} {F : Nat → Int} (s : G7 pb z g v n L (⟨b, T, m, F⟩ :: E) w wr) (hn : ∀ e, e ∈ E → e.b ≠ b) (G : Nat → Int) : G7 pb z g v n L (⟨b, T, m, G⟩ :: E) w (wr.setRow b (arrv m G)) := by
  have h0 := s.ex _ (.head _)
  have hb : w.heap.size ≤ b := h0.2.1
  have hb2 : b < w.heap.size + 2 := h0.2.2
  have hp := s.lp
  refine ⟨below_row s.below hb _, s.pd.row _ (by omega) (fun k e => by have := s.lv k e; omega), s.lp, s.lv, fun e he => ?_⟩
  rcases List.mem_cons.1 he with rfl | he
  · exact ⟨h0.1.setRow G, h0.2⟩
  · have := s.ex e (.tail _ he)
    exact ⟨this.1.setRow_other _ (hn e he), this.2⟩
theorem G7.e0 {b T m : Nat} {F : Nat → Int} (s : G7 pb z g v n L (⟨b, T, m, F⟩ :: E) w wr) : Blk wr b T m F := (s.ex _ (.head _)).1
theorem g7_of {S : Nat → Int} {n0 m : Nat} (f : FilR z g S n0 pb m L v w1 wr) (b : Below w.heap.size w w1) (h2 : w.heap.size + 2 ≤ w1.heap.size) (hE : ∀ e, e ∈ E → Blk w1 e.b e.T e.n e.F ∧ w.heap.size ≤ e.b ∧ e.b < w.heap.size + 2) : G7 pb z g v (m + 1) L E w wr :=
  ⟨b.trans (f.below.mono b.size), f.pd, Nat.le_trans h2 f.lp, fun k hk => Nat.le_trans h2 (f.lv k hk), fun e he => ⟨(hE e he).1.below f.below, (hE e he).2⟩⟩
theorem G7.all {m : Nat} (s : G7 pb z g v (m + 1) L E w wr) (k : Below wr.heap.size wr w') {v2 : Value} (o : OwnO w' v2 (m + 1) L) {gb : Nat} (hv : v2.ownBlock = some gb) (hg : wr.heap.size ≤ gb) :
    ∃ cp, v2 = .slice (some ⟨gb, 0, none⟩) (m + 1) cp ∧ m + 1 ≤ cp ∧ G7 pb z g v (m + 1) L E w w' ∧ (Sx.mk gb (m + 1) L).ok w' ∧ gb ≠ pb ∧ v.ownBlock ≠ some gb ∧ w.heap.size ≤ gb := by
  have hp := s.pd.lt
  have hz := s.below.size
  rcases o.form with ⟨h0, _⟩ | ⟨gb', cp, rfl, hl2, hc, hL⟩
  · omega
  · simp [Value.ownBlock] at hv
    subst hv
    exact ⟨cp, rfl, hc, s.down k, ⟨hl2, hL⟩, by omega, fun hv => by have := s.pd.own.lt hv; omega, by omega⟩
theorem G7.flag {gb : Nat} {m : Nat} {M : Nat → Nat → Int} (s : G7 pb z g v n L E w wr) (o : (Sx.mk gb m M).ok wr) (h1 : gb ≠ pb) (h2 : v.ownBlock ≠ some gb) (h3 : w.heap.size ≤ gb) : FiR wr.heap.size false pb z g v n L E [⟨gb, m, M⟩] w (wr.alloc (.cells #[.bool false] 29)) := by
  have k := fi_flag s.below s.pd (by have := s.lp; omega) (fun k hk => by have := s.lv k hk; omega)
  have hz := s.pd.lt
  have hp := s.lp
  have ba : Below wr.heap.size wr (wr.alloc (.cells #[.bool false] 29)) := (Below.refl _ _).alloc (Nat.le_refl _) _
  refine ⟨k.below, k.fc, k.ff, k.pd, k.ne, k.nv, k.lb, k.lp, k.lv, fun e he => ?_, fun e he => ?_⟩
  · have h := s.ex e he
    exact ⟨h.1.alloc _, h.2.1, by omega, by omega, fun hv => by have := s.lv _ hv; omega⟩
  · obtain rfl : e = ⟨gb, m, M⟩ := by simpa using he
    have hl : gb < wr.heap.size := o.1
    exact ⟨⟨by show gb < _; simp; omega, fun i hi j hj => (ba.cell (p := ⟨gb, i * 11 + j, none⟩) hl).trans (o.2 i hi j hj)⟩, h3, by simp only; omega, h1, h2⟩
end
theorem FiR.rowH {bc pb : Nat} {h : Bool} {z g : Int} {v : Value} {n : Nat} {L : Nat → Nat → Int} {E : List Lx} {Sl : List Sx} {w wr : World} {b T m : Nat} {F : Nat → Int} (s : FiR bc h pb z g v n L (⟨b, T, m, F⟩ :: E) Sl w wr) (hn : ∀ e, e ∈ E → e.b ≠ b) (hs : ∀ e, e ∈ Sl → e.b ≠ b) (G : Nat → Int) : FiR bc h pb z g v n L (⟨b, T, m, G⟩ :: E) Sl w (wr.setRow b (arrv m G)) := by
  obtain ⟨a0, h0, h1, h2, h3⟩ := s.ex _ (.head _)
  have h0' : w.heap.size ≤ b := h0
  have h1' : b ≠ bc := h1
  have h2' : b ≠ pb := h2
  have h3' : v.ownBlock ≠ some b := h3
  refine ⟨below_row s.below h0' _, by rw [(ls_row_other _ (by show bc ≠ b; exact fun e => h1' e.symm)).1]; exact s.fc, by rw [(ls_row_other _ (by show bc ≠ b; exact fun e => h1' e.symm)).2]; exact s.ff, s.pd.row _ (fun e => h2' e.symm) (fun k hk e => h3' (by rw [hk, e])), s.ne, s.nv, s.lb, s.lp, s.lv, fun e he => ?_, fun e he => ?_⟩
  · rcases List.mem_cons.1 he with rfl | he
    · exact ⟨a0.setRow G, h0, h1, h2, h3⟩
    · have := s.ex e (.tail _ he)
      exact ⟨this.1.setRow_other _ (hn e he), this.2⟩
  · obtain ⟨⟨a, a2⟩, c⟩ := s.sx e he
    exact ⟨⟨by rw [setRow_size]; exact a, fun i hi j hj => by rw [(ls_row_other _ (by show e.b ≠ b; exact hs e he)).1]; exact a2 i hi j hj⟩, c⟩
theorem dlo2 : (Try.prog.info? 45).map (·.size) = some 10 := by kernel_rfl
/-- Are the numbers k of an output and of the jump within half the box? -/
def okS (O D : Nat → Int) (k : Nat) : Prop := (-274877906944 ≤ O (5 + k) ∧ O (5 + k) ≤ 274877906944) ∧ (-4503599627370496 ≤ O (8 + k) ∧ O (8 + k) ≤ 4503599627370496) ∧ (-274877906944 ≤ D (4 + k) ∧ D (4 + k) ≤ 274877906944) ∧ (-4503599627370496 ≤ D (7 + k) ∧ D (7 + k) ≤ 4503599627370496)
theorem okS_half {O D : Nat → Int} (h : ∀ k, k < 3 → okS O D k) : (∀ j, 5 ≤ j → j < 11 → -(obx j) ≤ 2 * O j ∧ 2 * O j ≤ obx j) ∧ (∀ j, 5 ≤ j → j < 11 → -(obx j) ≤ 2 * D (j - 1) ∧ 2 * D (j - 1) ≤ obx j) := by
  refine ⟨fun j h1 h2 => ?_, fun j h1 h2 => ?_⟩
  · unfold obx
    by_cases h8 : j < 8
    · have := (h (j - 5) (by omega)).1
      rw [show 5 + (j - 5) = j by omega] at this
      rw [if_pos h8]; omega
    · have := (h (j - 8) (by omega)).2.1
      rw [show 8 + (j - 8) = j by omega] at this
      rw [if_neg h8]; omega
  · unfold obx
    by_cases h8 : j < 8
    · have := (h (j - 5) (by omega)).2.2.1
      rw [show 4 + (j - 5) = j - 1 by omega] at this
      rw [if_pos h8]; omega
    · have := (h (j - 8) (by omega)).2.2.2
      rw [show 7 + (j - 8) = j - 1 by omega] at this
      rw [if_neg h8]; omega
/-- The row that the law reckons. -/
def wrF (D O : Nat → Int) : Nat → Int := putF (putF O 5 3 (vaV (v2L (fun i => O (5 + i)) (fun i => D (4 + i))) 2)) 8 3 (vaV (v2L (fun i => putF O 5 3 (vaV (v2L (fun i => O (5 + i)) (fun i => D (4 + i))) 2) (8 + i)) (fun i => D (7 + i))) 2)
theorem wrF_eq (D O : Nat → Int) : wrF D O = shF D O := by
  have e : (fun i => putF O 5 3 (vaV (v2L (fun i => O (5 + i)) (fun i => D (4 + i))) 2) (8 + i)) = fun i => O (8 + i) := by
    funext i; exact putF_no (by omega)
  unfold wrF shF shV
  rw [e]
theorem sh_row {S D : Nat → Int} {t : Int} (h : ∀ k, k < 3 → okS (ofF S t) D k) : arrv 11 (eaF (shF D) (ofF S t)) = arrv 11 (wrF D (ofF S t)) ∧ eaH (shF D) (shH D) (ofF S t) = false := by
  obtain ⟨h1, h2⟩ := okS_half h
  obtain ⟨a, b, c⟩ := shift_eq D (ofF S t) (of_unit S t) h1 h2
  refine ⟨arrv_congr fun j hj => ?_, c⟩
  rw [wrF_eq]
  by_cases h5 : j < 5
  · rw [b j h5, sh_lo D _ h5]
  · rw [(a j (by omega) hj).1, sh_hi D _ (by omega) hj, (a j (by omega) hj).2]
theorem orB_none {p : Nat → Bool} : ∀ {n : Nat}, (∀ i, i < n → p i = false) → orB p n = false
  | 0, _ => rfl
  | n + 1, h => by simp only [orB]; rw [orB_none fun i hi => h i (by omega), h n (by omega)]; rfl
theorem fi_sl2 {bc pb : Nat} {h : Bool} {z g : Int} {v : Value} {n : Nat} {L : Nat → Nat → Int} {E : List Lx} {Sl : List Sx} {w wr : World} (s : FiR bc h pb z g v n L E Sl w wr) (A : Nat → Nat → Int) (d : Nat) (e : wr.heap.size = d) :
    FiR bc h pb z g v n L E Sl w (wr.alloc (.cells (arrv 6 (sideV A)) 43)) ∧ VLs (wr.alloc (.cells (arrv 6 (sideV A)) 43)) d 0 2 A := by
  subst e; exact ⟨s.alloc _, vls_of (Blk.new wr _ 6 _)⟩
set_option maxHeartbeats 16000000 in
theorem shifts27_walk (z : Int) (S : Nat → Int) (q : Option Addr) (n cp : Nat) (I D0 : Nat → Int) (w : World) (hI : Slc w q (8 * n) I) :
    Calls Try.prog 4 #[.int .i64 z, .agg (arrv 24 S), .slice q n cp, .agg (arrv 10 D0)] w fun e w' => e = .returned (.bool true) ∧ Below w.heap.size w w' := by
  have L0 := Lib.hid (show BsR [⟨w.heap.size + 1, 45, 10, D0⟩, ⟨w.heap.size, 32, 24, S⟩] (w.heap.size + 1 + 1) w ((w.alloc (.cells (arrv 24 S) 32)).alloc (.cells (arrv 10 D0) 45)) by
    have := ((bs_nil w).lay 32 24 S).lay 45 10 D0
    simpa using this)
  have HI := Lib.hid hI
  clear hI
  go_enter Try.func4, Try.ntmps4
  go_upto_region 3 with (go_at_call 9; (refine (awake27_any _).mono ?_); rintro e w1 ⟨rfl, hb1⟩)
  have L1 := Lib.hid (L0.out.down hb1)
  clear hb1 L0
  have P0 := L1.out.e1
  by_cases hg : 1 ≤ z ∧ z ≤ 64 ∧ (1 : Int) ≤ 1 ∧ (1 : Int) ≤ 1073741824 ∧ n ≤ 20
  · have HG := Lib.hid hg
    refine wp_region_lit ?_
    refine wpList_val (v := ?_) rfl ?_ ?_
    rotate_left
    · (go_simp; (try (first | with_reducible rfl | (constructor <;> with_reducible rfl))))
    (try simp only [Act.put, nA, nB, nC])
    refine wpList_val (v := ?_) rfl ?_ ?_
    rotate_left
    · refine Eq.trans (run_load_row 32 (.tmp 5) (by rfl) (w.heap.size) (by rfl) _ _ _ _ (P0) Try.underlying32 rfl (ist.trans (by rw [arrv_size]))) ?_; with_reducible rfl
    (try simp only [Act.put, nA, nB, nC])
    refine wpList_val (v := ?_) rfl ?_ ?_
    rotate_left
    · (go_simp; (try (first | with_reducible rfl | (constructor <;> with_reducible rfl))))
    (try simp only [Act.put, nA, nB, nC])
    refine wpList_step (fun K hK => ?_)
    go_simp
    (refine (fill_ok z 1 S q n cp I _ HG.out.1 HG.out.2.1 HG.out.2.2.1 HG.out.2.2.2.1 HG.out.2.2.2.2 (HI.out.below L1.out.below)).mono ?_); rintro e w2 ⟨pb, m, L, v, rfl, hf⟩; have F0 := Lib.hid hf; clear hf
    (try dsimp only)
    (try simp only [Act.put, nA, nB, nC])
    refine hK _ _ ?_
    clear hK K
    refine wpList_val (v := ?_) rfl ?_ ?_
    rotate_left
    · (go_simp; (try (first | with_reducible rfl | (constructor <;> with_reducible rfl))))
    (try simp only [Act.put, nA, nB, nC])
    refine wpList_nil ?_
    have OK := Lib.hid F0.out.ok
    have hN2 := OK.out.most
    have hN3 := HG.out.2.1
    have G0 := Lib.hid (g7_of (E := [⟨w.heap.size + 1, 45, 10, D0⟩]) F0.out L1.out.below L1.out.le (fun e he => by
      obtain rfl : e = ⟨w.heap.size + 1, 45, 10, D0⟩ := by simpa using he
      exact ⟨L1.out.e0, by simp, by simp⟩))
    clear hg P0 F0 L1
    go_upto_region 6 with fail
    refine wp_region_lit ?_
    refine wpList_step (fun K hK => ?_)
    go_simp
    (refine (qone_any _).mono ?_); rintro e w3 ⟨rfl, hb⟩; have G1 := Lib.hid (G0.out.down hb); clear hb G0; have q0 := G1.out.e0
    (try dsimp only)
    (try simp only [Act.put, nA, nB, nC])
    refine hK _ _ ?_
    clear hK K
    refine wpList_val (v := ?_) rfl ?_ ?_
    rotate_left
    · (go_simp; (try (first | with_reducible rfl | (constructor <;> with_reducible rfl))))
    (try simp only [Act.put, nA, nB, nC])
    refine wpList_done (w' := ?_) rfl ?_ ?_
    rotate_left
    · (refine Eq.trans (run_store_sub 42 (.tmp 26) (.tmp 25) (by rfl) (w.heap.size + 1) 0 (by rfl) (by rfl) q0 (by decide) iqt) ?_; with_reducible rfl)
    (try simp only [Act.put, nA, nB, nC])
    refine wpList_nil ?_
    have G2 := Lib.hid (G1.out.row (by simp) (putF D0 0 4 oneQ))
    have HD1 := Lib.hid (show ∀ i, i < 4 → putF D0 0 4 oneQ i = oneQ i from fun i hi => putF_at (by omega))
    clear G1 q0
    generalize w3.setRow (w.heap.size + 1) (arrv 10 (putF D0 0 4 oneQ)) = W3 at *
    obtain ⟨D, hD⟩ : ∃ x, putF D0 0 4 oneQ = x := ⟨_, rfl⟩
    rw [hD] at G2 HD1
    clear hD
    go_upto_region 7 with fail
    refine wp_region_lit ?_
    refine wpList_val (v := ?_) rfl ?_ ?_
    rotate_left
    · (go_simp; (try (first | with_reducible rfl | (constructor <;> with_reducible rfl))))
    (try simp only [Act.put, nA, nB, nC])
    refine wpList_step (fun K hK => ?_)
    go_simp
    (refine (all_out pb z 1 (m + 1) L v _ G2.out.pd (by omega)).mono ?_); rintro e w4 ⟨vl, rfl, hb, ho, gl, hv, hg⟩; obtain ⟨cl, rfl, hcl, hS, hok, hg1, hg2, hg3⟩ := G2.out.all hb ho hv hg; have G3 := Lib.hid hS; have OKS := Lib.hid (And.intro hok (And.intro hg1 (And.intro hg2 hg3))); clear hb ho hv hg hS hok hg1 hg2 hg3 G2
    (try dsimp only)
    (try simp only [Act.put, nA, nB, nC])
    refine hK _ _ ?_
    clear hK K
    refine wpList_val (v := ?_) rfl ?_ ?_
    rotate_left
    · (go_simp; (try (first | with_reducible rfl | (constructor <;> with_reducible rfl))))
    (try simp only [Act.put, nA, nB, nC])
    refine wpList_nil ?_
    obtain ⟨N, hN⟩ : ∃ x, m + 1 = x := ⟨_, rfl⟩
    rw [hN] at G3 OKS OK ⊢
    have hN4 : (N : Int) ≤ 64 := by omega
    have n0 : (0 : Int) ≤ (N : Int) := Int.natCast_nonneg _
    have n1 := OK.out.one
    clear hN hN2 hN3
    go_upto_region 9 with fail
    go_loopw [11] (fun i wr => ∃ k : Nat, k ≤ N ∧ i = .int .i64 k ∧ wr = w4 ∧ Hid (∀ i', i' < k → ∀ k', k' < 3 → okS (L i') D k')) (fun i _ => N - (intOf i).toNat)
    case atStart => exact ⟨0, Nat.zero_le _, by go_num, by first | trivial | rfl, Lib.hid (fun i' hi' => by omega)⟩
    case round =>
      obtain ⟨k, hk, rfl, rfl, R⟩ := hrel
      have k0 : (0 : Int) ≤ (k : Int) := Int.natCast_nonneg _
      by_cases hlt : k < N
      · have d1 : decide (k < N) = true := by simpa using hlt
        have d2 : decide ((k : Int) < (N : Int)) = true := by simpa using hlt
        have k1 : (k : Int) < (N : Int) := by omega
        go_upto_region 12 with fail
        go_loopw [12] (fun i wr2 => ∃ j : Nat, j ≤ 3 ∧ i = .int .i64 j ∧ wr2 = wr ∧ Hid (∀ k', k' < j → okS (L k) D k')) (fun i _ => 3 - (intOf i).toNat)
        case atStart => exact ⟨0, by omega, rfl, rfl, Lib.hid (fun i' hi' => by omega)⟩
        case round =>
          obtain ⟨j, hj, rfl, rfl, R2⟩ := hrel
          have j0 : (0 : Int) ≤ (j : Int) := Int.natCast_nonneg _
          by_cases hjl : j < 3
          · have g1 : decide ((j : Int) < 3) = true := by simp; omega
            have j1 : (j : Int) < 3 := by omega
            have c1 := OKS.out.1.2 k hlt (5 + j) (by omega)
            have c2 := OKS.out.1.2 k hlt (8 + j) (by omega)
            have x1 := G3.out.e0.cell (i := 4 + j) (by omega)
            have x2 := G3.out.e0.cell (i := 7 + j) (by omega)
            rw [← Nat.add_assoc] at c1 c2
            have HO := Lib.hid (show okS (L k) D j ↔ (-274877906944 ≤ L k (5 + j) ∧ L k (5 + j) ≤ 274877906944) ∧ (-4503599627370496 ≤ L k (8 + j) ∧ L k (8 + j) ≤ 4503599627370496) ∧ (-274877906944 ≤ D (4 + j) ∧ D (4 + j) ≤ 274877906944) ∧ (-4503599627370496 ≤ D (7 + j) ∧ D (7 + j) ≤ 4503599627370496) from Iff.rfl)
            simp only at c1 c2
            obtain ⟨a1, ha1⟩ : ∃ x, L k (5 + j) = x := ⟨_, rfl⟩
            obtain ⟨a2, ha2⟩ : ∃ x, L k (8 + j) = x := ⟨_, rfl⟩
            obtain ⟨d1', hd1⟩ : ∃ x, D (4 + j) = x := ⟨_, rfl⟩
            obtain ⟨d2', hd2⟩ : ∃ x, D (7 + j) = x := ⟨_, rfl⟩
            rw [ha1] at c1 HO
            rw [ha2] at c2 HO
            rw [hd1] at x1 HO
            rw [hd2] at x2 HO
            clear ha1 ha2 hd1 hd2
            go_upto_region 14 with fail
            by_cases h0 : 274877906944 < a1
            · obtain ⟨c, hc⟩ : ∃ c, decide (274877906944 < a1) = c := ⟨_, rfl⟩
              have HC := Lib.hid (show c = true by rw [← hc]; simpa using h0)
              clear h0 HO
              refine wp_region_lit ?_
              refine wpList_val (v := ?_) (by rfl) ?_ ?_
              rotate_left
              · (go_simp; (try (first | with_reducible rfl | (constructor <;> with_reducible rfl))))
              (try simp only [Act.put, nA, nB, nC])
              refine wpList_val (v := ?_) (by rfl) ?_ ?_
              rotate_left
              · (go_simp; (try (first | with_reducible rfl | (constructor <;> with_reducible rfl))))
              (try simp only [Act.put, nA, nB, nC])
              refine wpList_val (v := ?_) (by rfl) ?_ ?_
              rotate_left
              · (go_simp; (try (first | with_reducible rfl | (constructor <;> with_reducible rfl))))
              (try simp only [Act.put, nA, nB, nC])
              refine wpList_val (v := ?_) (by rfl) ?_ ?_
              rotate_left
              · (go_simp; (try (first | with_reducible rfl | (constructor <;> with_reducible rfl))))
              (try simp only [Act.put, nA, nB, nC])
              refine wpList_val (v := ?_) (by rfl) ?_ ?_
              rotate_left
              · (go_simp; (try (first | with_reducible rfl | (constructor <;> with_reducible rfl))))
              (try simp only [Act.put, nA, nB, nC])
              refine wpList_val (v := ?_) (by rfl) ?_ ?_
              rotate_left
              · (go_simp; (try (first | with_reducible rfl | (constructor <;> with_reducible rfl))))
              (try simp only [Act.put, nA, nB, nC])
              refine wpList_val (v := ?_) (by rfl) ?_ ?_
              rotate_left
              · (go_simp; (try (first | with_reducible rfl | (constructor <;> with_reducible rfl))))
              (try simp only [Act.put, nA, nB, nC])
              refine wpList_val (v := ?_) (by rfl) ?_ ?_
              rotate_left
              · (go_simp; (try (first | with_reducible rfl | (constructor <;> with_reducible rfl))))
              (try simp only [Act.put, nA, nB, nC])
              refine wpList_val (v := ?_) (by rfl) ?_ ?_
              rotate_left
              · (go_simp; (try (first | with_reducible rfl | (constructor <;> with_reducible rfl))))
              (try simp only [Act.put, nA, nB, nC])
              refine wpList_skip (by have h := HC.out; subst h; rfl) ?_
              (try simp only [Act.put, nA, nB, nC])
              refine wpList_skip (by have h := HC.out; subst h; rfl) ?_
              (try simp only [Act.put, nA, nB, nC])
              refine wpList_skip (by have h := HC.out; subst h; rfl) ?_
              (try simp only [Act.put, nA, nB, nC])
              refine wpList_skip (by have h := HC.out; subst h; rfl) ?_
              (try simp only [Act.put, nA, nB, nC])
              refine wpList_skip (by have h := HC.out; subst h; rfl) ?_
              (try simp only [Act.put, nA, nB, nC])
              refine wpList_skip (by have h := HC.out; subst h; rfl) ?_
              (try simp only [Act.put, nA, nB, nC])
              refine wpList_skip (by have h := HC.out; subst h; rfl) ?_
              (try simp only [Act.put, nA, nB, nC])
              refine wpList_skip (by have h := HC.out; subst h; rfl) ?_
              (try simp only [Act.put, nA, nB, nC])
              refine wpList_val (v := .bool c) (by rfl) ?_ ?_
              · (have h := HC.out; subst h; go_simp; (try (first | with_reducible rfl | (constructor <;> with_reducible rfl))))
              (try simp only [Act.put, nA, nB, nC])
              refine wpList_val (v := ?_) (by rfl) ?_ ?_
              rotate_left
              · (go_simp; (try (first | with_reducible rfl | (constructor <;> with_reducible rfl))))
              (try simp only [Act.put, nA, nB, nC])
              refine wpList_skip (by have h := HC.out; subst h; rfl) ?_
              (try simp only [Act.put, nA, nB, nC])
              refine wpList_skip (by have h := HC.out; subst h; rfl) ?_
              (try simp only [Act.put, nA, nB, nC])
              refine wpList_skip (by have h := HC.out; subst h; rfl) ?_
              (try simp only [Act.put, nA, nB, nC])
              refine wpList_skip (by have h := HC.out; subst h; rfl) ?_
              (try simp only [Act.put, nA, nB, nC])
              refine wpList_skip (by have h := HC.out; subst h; rfl) ?_
              (try simp only [Act.put, nA, nB, nC])
              refine wpList_skip (by have h := HC.out; subst h; rfl) ?_
              (try simp only [Act.put, nA, nB, nC])
              refine wpList_skip (by have h := HC.out; subst h; rfl) ?_
              (try simp only [Act.put, nA, nB, nC])
              refine wpList_skip (by have h := HC.out; subst h; rfl) ?_
              (try simp only [Act.put, nA, nB, nC])
              refine wpList_val (v := .bool c) (by rfl) ?_ ?_
              · (have h := HC.out; subst h; go_simp; (try (first | with_reducible rfl | (constructor <;> with_reducible rfl))))
              (try simp only [Act.put, nA, nB, nC])
              refine wpList_val (v := ?_) (by rfl) ?_ ?_
              rotate_left
              · (go_simp; (try (first | with_reducible rfl | (constructor <;> with_reducible rfl))))
              (try simp only [Act.put, nA, nB, nC])
              refine wpList_skip (by have h := HC.out; subst h; rfl) ?_
              (try simp only [Act.put, nA, nB, nC])
              refine wpList_skip (by have h := HC.out; subst h; rfl) ?_
              (try simp only [Act.put, nA, nB, nC])
              refine wpList_skip (by have h := HC.out; subst h; rfl) ?_
              (try simp only [Act.put, nA, nB, nC])
              refine wpList_skip (by have h := HC.out; subst h; rfl) ?_
              (try simp only [Act.put, nA, nB, nC])
              refine wpList_skip (by have h := HC.out; subst h; rfl) ?_
              (try simp only [Act.put, nA, nB, nC])
              refine wpList_skip (by have h := HC.out; subst h; rfl) ?_
              (try simp only [Act.put, nA, nB, nC])
              refine wpList_skip (by have h := HC.out; subst h; rfl) ?_
              (try simp only [Act.put, nA, nB, nC])
              refine wpList_skip (by have h := HC.out; subst h; rfl) ?_
              (try simp only [Act.put, nA, nB, nC])
              refine wpList_val (v := .bool c) (by rfl) ?_ ?_
              · (have h := HC.out; subst h; go_simp; (try (first | with_reducible rfl | (constructor <;> with_reducible rfl))))
              (try simp only [Act.put, nA, nB, nC])
              refine wpList_val (v := ?_) (by rfl) ?_ ?_
              rotate_left
              · (go_simp; (try (first | with_reducible rfl | (constructor <;> with_reducible rfl))))
              (try simp only [Act.put, nA, nB, nC])
              refine wpList_skip (by have h := HC.out; subst h; rfl) ?_
              (try simp only [Act.put, nA, nB, nC])
              refine wpList_skip (by have h := HC.out; subst h; rfl) ?_
              (try simp only [Act.put, nA, nB, nC])
              refine wpList_skip (by have h := HC.out; subst h; rfl) ?_
              (try simp only [Act.put, nA, nB, nC])
              refine wpList_skip (by have h := HC.out; subst h; rfl) ?_
              (try simp only [Act.put, nA, nB, nC])
              refine wpList_skip (by have h := HC.out; subst h; rfl) ?_
              (try simp only [Act.put, nA, nB, nC])
              refine wpList_val (v := .bool c) (by rfl) ?_ ?_
              · (have h := HC.out; subst h; go_simp; (try (first | with_reducible rfl | (constructor <;> with_reducible rfl))))
              (try simp only [Act.put, nA, nB, nC])
              refine wpList_val (v := ?_) (by rfl) ?_ ?_
              rotate_left
              · (go_simp; (try (first | with_reducible rfl | (constructor <;> with_reducible rfl))))
              (try simp only [Act.put, nA, nB, nC])
              refine wpList_skip (by have h := HC.out; subst h; rfl) ?_
              (try simp only [Act.put, nA, nB, nC])
              refine wpList_skip (by have h := HC.out; subst h; rfl) ?_
              (try simp only [Act.put, nA, nB, nC])
              refine wpList_skip (by have h := HC.out; subst h; rfl) ?_
              (try simp only [Act.put, nA, nB, nC])
              refine wpList_skip (by have h := HC.out; subst h; rfl) ?_
              (try simp only [Act.put, nA, nB, nC])
              refine wpList_skip (by have h := HC.out; subst h; rfl) ?_
              (try simp only [Act.put, nA, nB, nC])
              refine wpList_val (v := .bool c) (by rfl) ?_ ?_
              · (have h := HC.out; subst h; go_simp; (try (first | with_reducible rfl | (constructor <;> with_reducible rfl))))
              (try simp only [Act.put, nA, nB, nC])
              refine wpList_val (v := ?_) (by rfl) ?_ ?_
              rotate_left
              · (go_simp; (try (first | with_reducible rfl | (constructor <;> with_reducible rfl))))
              (try simp only [Act.put, nA, nB, nC])
              refine wpList_skip (by have h := HC.out; subst h; rfl) ?_
              (try simp only [Act.put, nA, nB, nC])
              refine wpList_skip (by have h := HC.out; subst h; rfl) ?_
              (try simp only [Act.put, nA, nB, nC])
              refine wpList_skip (by have h := HC.out; subst h; rfl) ?_
              (try simp only [Act.put, nA, nB, nC])
              refine wpList_skip (by have h := HC.out; subst h; rfl) ?_
              (try simp only [Act.put, nA, nB, nC])
              refine wpList_skip (by have h := HC.out; subst h; rfl) ?_
              (try simp only [Act.put, nA, nB, nC])
              refine wpList_val (v := .bool c) (by rfl) ?_ ?_
              · (have h := HC.out; subst h; go_simp; (try (first | with_reducible rfl | (constructor <;> with_reducible rfl))))
              (try simp only [Act.put, nA, nB, nC])
              refine wpList_val (v := ?_) (by rfl) ?_ ?_
              rotate_left
              · (go_simp; (try (first | with_reducible rfl | (constructor <;> with_reducible rfl))))
              (try simp only [Act.put, nA, nB, nC])
              refine wpList_skip (by have h := HC.out; subst h; rfl) ?_
              (try simp only [Act.put, nA, nB, nC])
              refine wpList_skip (by have h := HC.out; subst h; rfl) ?_
              (try simp only [Act.put, nA, nB, nC])
              refine wpList_skip (by have h := HC.out; subst h; rfl) ?_
              (try simp only [Act.put, nA, nB, nC])
              refine wpList_skip (by have h := HC.out; subst h; rfl) ?_
              (try simp only [Act.put, nA, nB, nC])
              refine wpList_skip (by have h := HC.out; subst h; rfl) ?_
              (try simp only [Act.put, nA, nB, nC])
              refine wpList_val (v := .bool c) (by rfl) ?_ ?_
              · (have h := HC.out; subst h; go_simp; (try (first | with_reducible rfl | (constructor <;> with_reducible rfl))))
              (try simp only [Act.put, nA, nB, nC])
              refine wpList_nil ?_
              have h := HC.out
              subst h
              go_wp2_with fail
              go_ret
              exact ⟨rfl, G3.out.below⟩
            have e0 : decide (274877906944 < a1) = false := by simpa using h0
            by_cases h1 : a1 < -274877906944
            · obtain ⟨c, hc⟩ : ∃ c, decide (a1 < -274877906944) = c := ⟨_, rfl⟩
              have HC := Lib.hid (show c = true by rw [← hc]; simpa using h1)
              clear h1 HO
              refine wp_region_lit ?_
              refine wpList_val (v := ?_) (by rfl) ?_ ?_
              rotate_left
              · (go_simp; (try (first | with_reducible rfl | (constructor <;> with_reducible rfl))))
              (try simp only [Act.put, nA, nB, nC])
              refine wpList_val (v := ?_) (by rfl) ?_ ?_
              rotate_left
              · (go_simp; (try (first | with_reducible rfl | (constructor <;> with_reducible rfl))))
              (try simp only [Act.put, nA, nB, nC])
              refine wpList_val (v := ?_) (by rfl) ?_ ?_
              rotate_left
              · (go_simp; (try (first | with_reducible rfl | (constructor <;> with_reducible rfl))))
              (try simp only [Act.put, nA, nB, nC])
              refine wpList_val (v := ?_) (by rfl) ?_ ?_
              rotate_left
              · (go_simp; (try (first | with_reducible rfl | (constructor <;> with_reducible rfl))))
              (try simp only [Act.put, nA, nB, nC])
              refine wpList_val (v := ?_) (by rfl) ?_ ?_
              rotate_left
              · (go_simp; (try (first | with_reducible rfl | (constructor <;> with_reducible rfl))))
              (try simp only [Act.put, nA, nB, nC])
              refine wpList_val (v := ?_) (by rfl) ?_ ?_
              rotate_left
              · (go_simp; (try (first | with_reducible rfl | (constructor <;> with_reducible rfl))))
              (try simp only [Act.put, nA, nB, nC])
              refine wpList_val (v := ?_) (by rfl) ?_ ?_
              rotate_left
              · (go_simp; (try (first | with_reducible rfl | (constructor <;> with_reducible rfl))))
              (try simp only [Act.put, nA, nB, nC])
              refine wpList_val (v := ?_) (by rfl) ?_ ?_
              rotate_left
              · (go_simp; (try (first | with_reducible rfl | (constructor <;> with_reducible rfl))))
              (try simp only [Act.put, nA, nB, nC])
              refine wpList_val (v := ?_) (by rfl) ?_ ?_
              rotate_left
              · (go_simp; (try (first | with_reducible rfl | (constructor <;> with_reducible rfl))))
              (try simp only [Act.put, nA, nB, nC])
              refine wpList_val (v := ?_) (by rfl) ?_ ?_
              rotate_left
              · (go_simp; (try (first | with_reducible rfl | (constructor <;> with_reducible rfl))))
              (try simp only [Act.put, nA, nB, nC])
              refine wpList_val (v := ?_) (by rfl) ?_ ?_
              rotate_left
              · (go_simp; (try (first | with_reducible rfl | (constructor <;> with_reducible rfl))))
              (try simp only [Act.put, nA, nB, nC])
              refine wpList_val (v := ?_) (by rfl) ?_ ?_
              rotate_left
              · (go_simp; (try (first | with_reducible rfl | (constructor <;> with_reducible rfl))))
              (try simp only [Act.put, nA, nB, nC])
              refine wpList_val (v := ?_) (by rfl) ?_ ?_
              rotate_left
              · (go_simp; (try (first | with_reducible rfl | (constructor <;> with_reducible rfl))))
              (try simp only [Act.put, nA, nB, nC])
              refine wpList_val (v := ?_) (by rfl) ?_ ?_
              rotate_left
              · (go_simp; (try (first | with_reducible rfl | (constructor <;> with_reducible rfl))))
              (try simp only [Act.put, nA, nB, nC])
              refine wpList_val (v := ?_) (by rfl) ?_ ?_
              rotate_left
              · (go_simp; (try (first | with_reducible rfl | (constructor <;> with_reducible rfl))))
              (try simp only [Act.put, nA, nB, nC])
              refine wpList_val (v := ?_) (by rfl) ?_ ?_
              rotate_left
              · (go_simp; (try (first | with_reducible rfl | (constructor <;> with_reducible rfl))))
              (try simp only [Act.put, nA, nB, nC])
              refine wpList_val (v := ?_) (by rfl) ?_ ?_
              rotate_left
              · (go_simp; (try (first | with_reducible rfl | (constructor <;> with_reducible rfl))))
              (try simp only [Act.put, nA, nB, nC])
              refine wpList_val (v := ?_) (by rfl) ?_ ?_
              rotate_left
              · (go_simp; (try (first | with_reducible rfl | (constructor <;> with_reducible rfl))))
              (try simp only [Act.put, nA, nB, nC])
              refine wpList_val (v := ?_) (by rfl) ?_ ?_
              rotate_left
              · (go_simp; (try (first | with_reducible rfl | (constructor <;> with_reducible rfl))))
              (try simp only [Act.put, nA, nB, nC])
              refine wpList_skip (by have h := HC.out; subst h; rfl) ?_
              (try simp only [Act.put, nA, nB, nC])
              refine wpList_skip (by have h := HC.out; subst h; rfl) ?_
              (try simp only [Act.put, nA, nB, nC])
              refine wpList_skip (by have h := HC.out; subst h; rfl) ?_
              (try simp only [Act.put, nA, nB, nC])
              refine wpList_skip (by have h := HC.out; subst h; rfl) ?_
              (try simp only [Act.put, nA, nB, nC])
              refine wpList_skip (by have h := HC.out; subst h; rfl) ?_
              (try simp only [Act.put, nA, nB, nC])
              refine wpList_skip (by have h := HC.out; subst h; rfl) ?_
              (try simp only [Act.put, nA, nB, nC])
              refine wpList_skip (by have h := HC.out; subst h; rfl) ?_
              (try simp only [Act.put, nA, nB, nC])
              refine wpList_skip (by have h := HC.out; subst h; rfl) ?_
              (try simp only [Act.put, nA, nB, nC])
              refine wpList_val (v := .bool c) (by rfl) ?_ ?_
              · (have h := HC.out; subst h; go_simp; (try (first | with_reducible rfl | (constructor <;> with_reducible rfl))))
              (try simp only [Act.put, nA, nB, nC])
              refine wpList_val (v := ?_) (by rfl) ?_ ?_
              rotate_left
              · (go_simp; (try (first | with_reducible rfl | (constructor <;> with_reducible rfl))))
              (try simp only [Act.put, nA, nB, nC])
              refine wpList_skip (by have h := HC.out; subst h; rfl) ?_
              (try simp only [Act.put, nA, nB, nC])
              refine wpList_skip (by have h := HC.out; subst h; rfl) ?_
              (try simp only [Act.put, nA, nB, nC])
              refine wpList_skip (by have h := HC.out; subst h; rfl) ?_
              (try simp only [Act.put, nA, nB, nC])
              refine wpList_skip (by have h := HC.out; subst h; rfl) ?_
              (try simp only [Act.put, nA, nB, nC])
              refine wpList_skip (by have h := HC.out; subst h; rfl) ?_
              (try simp only [Act.put, nA, nB, nC])
              refine wpList_skip (by have h := HC.out; subst h; rfl) ?_
              (try simp only [Act.put, nA, nB, nC])
              refine wpList_skip (by have h := HC.out; subst h; rfl) ?_
              (try simp only [Act.put, nA, nB, nC])
              refine wpList_skip (by have h := HC.out; subst h; rfl) ?_
              (try simp only [Act.put, nA, nB, nC])
              refine wpList_val (v := .bool c) (by rfl) ?_ ?_
              · (have h := HC.out; subst h; go_simp; (try (first | with_reducible rfl | (constructor <;> with_reducible rfl))))
              (try simp only [Act.put, nA, nB, nC])
              refine wpList_val (v := ?_) (by rfl) ?_ ?_
              rotate_left
              · (go_simp; (try (first | with_reducible rfl | (constructor <;> with_reducible rfl))))
              (try simp only [Act.put, nA, nB, nC])
              refine wpList_skip (by have h := HC.out; subst h; rfl) ?_
              (try simp only [Act.put, nA, nB, nC])
              refine wpList_skip (by have h := HC.out; subst h; rfl) ?_
              (try simp only [Act.put, nA, nB, nC])
              refine wpList_skip (by have h := HC.out; subst h; rfl) ?_
              (try simp only [Act.put, nA, nB, nC])
              refine wpList_skip (by have h := HC.out; subst h; rfl) ?_
              (try simp only [Act.put, nA, nB, nC])
              refine wpList_skip (by have h := HC.out; subst h; rfl) ?_
              (try simp only [Act.put, nA, nB, nC])
              refine wpList_val (v := .bool c) (by rfl) ?_ ?_
              · (have h := HC.out; subst h; go_simp; (try (first | with_reducible rfl | (constructor <;> with_reducible rfl))))
              (try simp only [Act.put, nA, nB, nC])
              refine wpList_val (v := ?_) (by rfl) ?_ ?_
              rotate_left
              · (go_simp; (try (first | with_reducible rfl | (constructor <;> with_reducible rfl))))
              (try simp only [Act.put, nA, nB, nC])
              refine wpList_skip (by have h := HC.out; subst h; rfl) ?_
              (try simp only [Act.put, nA, nB, nC])
              refine wpList_skip (by have h := HC.out; subst h; rfl) ?_
              (try simp only [Act.put, nA, nB, nC])
              refine wpList_skip (by have h := HC.out; subst h; rfl) ?_
              (try simp only [Act.put, nA, nB, nC])
              refine wpList_skip (by have h := HC.out; subst h; rfl) ?_
              (try simp only [Act.put, nA, nB, nC])
              refine wpList_skip (by have h := HC.out; subst h; rfl) ?_
              (try simp only [Act.put, nA, nB, nC])
              refine wpList_val (v := .bool c) (by rfl) ?_ ?_
              · (have h := HC.out; subst h; go_simp; (try (first | with_reducible rfl | (constructor <;> with_reducible rfl))))
              (try simp only [Act.put, nA, nB, nC])
              refine wpList_val (v := ?_) (by rfl) ?_ ?_
              rotate_left
              · (go_simp; (try (first | with_reducible rfl | (constructor <;> with_reducible rfl))))
              (try simp only [Act.put, nA, nB, nC])
              refine wpList_skip (by have h := HC.out; subst h; rfl) ?_
              (try simp only [Act.put, nA, nB, nC])
              refine wpList_skip (by have h := HC.out; subst h; rfl) ?_
              (try simp only [Act.put, nA, nB, nC])
              refine wpList_skip (by have h := HC.out; subst h; rfl) ?_
              (try simp only [Act.put, nA, nB, nC])
              refine wpList_skip (by have h := HC.out; subst h; rfl) ?_
              (try simp only [Act.put, nA, nB, nC])
              refine wpList_skip (by have h := HC.out; subst h; rfl) ?_
              (try simp only [Act.put, nA, nB, nC])
              refine wpList_val (v := .bool c) (by rfl) ?_ ?_
              · (have h := HC.out; subst h; go_simp; (try (first | with_reducible rfl | (constructor <;> with_reducible rfl))))
              (try simp only [Act.put, nA, nB, nC])
              refine wpList_val (v := ?_) (by rfl) ?_ ?_
              rotate_left
              · (go_simp; (try (first | with_reducible rfl | (constructor <;> with_reducible rfl))))
              (try simp only [Act.put, nA, nB, nC])
              refine wpList_skip (by have h := HC.out; subst h; rfl) ?_
              (try simp only [Act.put, nA, nB, nC])
              refine wpList_skip (by have h := HC.out; subst h; rfl) ?_
              (try simp only [Act.put, nA, nB, nC])
              refine wpList_skip (by have h := HC.out; subst h; rfl) ?_
              (try simp only [Act.put, nA, nB, nC])
              refine wpList_skip (by have h := HC.out; subst h; rfl) ?_
              (try simp only [Act.put, nA, nB, nC])
              refine wpList_skip (by have h := HC.out; subst h; rfl) ?_
              (try simp only [Act.put, nA, nB, nC])
              refine wpList_val (v := .bool c) (by rfl) ?_ ?_
              · (have h := HC.out; subst h; go_simp; (try (first | with_reducible rfl | (constructor <;> with_reducible rfl))))
              (try simp only [Act.put, nA, nB, nC])
              refine wpList_nil ?_
              have h := HC.out
              subst h
              go_wp2_with fail
              go_ret
              exact ⟨rfl, G3.out.below⟩
            have e1 : decide (a1 < -274877906944) = false := by simpa using h1
            by_cases h2 : 4503599627370496 < a2
            · obtain ⟨c, hc⟩ : ∃ c, decide (4503599627370496 < a2) = c := ⟨_, rfl⟩
              have HC := Lib.hid (show c = true by rw [← hc]; simpa using h2)
              clear h2 HO
              refine wp_region_lit ?_
              refine wpList_val (v := ?_) (by rfl) ?_ ?_
              rotate_left
              · (go_simp; (try (first | with_reducible rfl | (constructor <;> with_reducible rfl))))
              (try simp only [Act.put, nA, nB, nC])
              refine wpList_val (v := ?_) (by rfl) ?_ ?_
              rotate_left
              · (go_simp; (try (first | with_reducible rfl | (constructor <;> with_reducible rfl))))
              (try simp only [Act.put, nA, nB, nC])
              refine wpList_val (v := ?_) (by rfl) ?_ ?_
              rotate_left
              · (go_simp; (try (first | with_reducible rfl | (constructor <;> with_reducible rfl))))
              (try simp only [Act.put, nA, nB, nC])
              refine wpList_val (v := ?_) (by rfl) ?_ ?_
              rotate_left
              · (go_simp; (try (first | with_reducible rfl | (constructor <;> with_reducible rfl))))
              (try simp only [Act.put, nA, nB, nC])
              refine wpList_val (v := ?_) (by rfl) ?_ ?_
              rotate_left
              · (go_simp; (try (first | with_reducible rfl | (constructor <;> with_reducible rfl))))
              (try simp only [Act.put, nA, nB, nC])
              refine wpList_val (v := ?_) (by rfl) ?_ ?_
              rotate_left
              · (go_simp; (try (first | with_reducible rfl | (constructor <;> with_reducible rfl))))
              (try simp only [Act.put, nA, nB, nC])
              refine wpList_val (v := ?_) (by rfl) ?_ ?_
              rotate_left
              · (go_simp; (try (first | with_reducible rfl | (constructor <;> with_reducible rfl))))
              (try simp only [Act.put, nA, nB, nC])
              refine wpList_val (v := ?_) (by rfl) ?_ ?_
              rotate_left
              · (go_simp; (try (first | with_reducible rfl | (constructor <;> with_reducible rfl))))
              (try simp only [Act.put, nA, nB, nC])
              refine wpList_val (v := ?_) (by rfl) ?_ ?_
              rotate_left
              · (go_simp; (try (first | with_reducible rfl | (constructor <;> with_reducible rfl))))
              (try simp only [Act.put, nA, nB, nC])
              refine wpList_val (v := ?_) (by rfl) ?_ ?_
              rotate_left
              · (go_simp; (try (first | with_reducible rfl | (constructor <;> with_reducible rfl))))
              (try simp only [Act.put, nA, nB, nC])
              refine wpList_val (v := ?_) (by rfl) ?_ ?_
              rotate_left
              · (go_simp; (try (first | with_reducible rfl | (constructor <;> with_reducible rfl))))
              (try simp only [Act.put, nA, nB, nC])
              refine wpList_val (v := ?_) (by rfl) ?_ ?_
              rotate_left
              · (go_simp; (try (first | with_reducible rfl | (constructor <;> with_reducible rfl))))
              (try simp only [Act.put, nA, nB, nC])
              refine wpList_val (v := ?_) (by rfl) ?_ ?_
              rotate_left
              · (go_simp; (try (first | with_reducible rfl | (constructor <;> with_reducible rfl))))
              (try simp only [Act.put, nA, nB, nC])
              refine wpList_val (v := ?_) (by rfl) ?_ ?_
              rotate_left
              · (go_simp; (try (first | with_reducible rfl | (constructor <;> with_reducible rfl))))
              (try simp only [Act.put, nA, nB, nC])
              refine wpList_val (v := ?_) (by rfl) ?_ ?_
              rotate_left
              · (go_simp; (try (first | with_reducible rfl | (constructor <;> with_reducible rfl))))
              (try simp only [Act.put, nA, nB, nC])
              refine wpList_val (v := ?_) (by rfl) ?_ ?_
              rotate_left
              · (go_simp; (try (first | with_reducible rfl | (constructor <;> with_reducible rfl))))
              (try simp only [Act.put, nA, nB, nC])
              refine wpList_val (v := ?_) (by rfl) ?_ ?_
              rotate_left
              · (go_simp; (try (first | with_reducible rfl | (constructor <;> with_reducible rfl))))
              (try simp only [Act.put, nA, nB, nC])
              refine wpList_val (v := ?_) (by rfl) ?_ ?_
              rotate_left
              · (go_simp; (try (first | with_reducible rfl | (constructor <;> with_reducible rfl))))
              (try simp only [Act.put, nA, nB, nC])
              refine wpList_val (v := ?_) (by rfl) ?_ ?_
              rotate_left
              · (go_simp; (try (first | with_reducible rfl | (constructor <;> with_reducible rfl))))
              (try simp only [Act.put, nA, nB, nC])
              refine wpList_val (v := ?_) (by rfl) ?_ ?_
              rotate_left
              · (go_simp; (try (first | with_reducible rfl | (constructor <;> with_reducible rfl))))
              (try simp only [Act.put, nA, nB, nC])
              refine wpList_val (v := ?_) (by rfl) ?_ ?_
              rotate_left
              · (go_simp; (try (first | with_reducible rfl | (constructor <;> with_reducible rfl))))
              (try simp only [Act.put, nA, nB, nC])
              refine wpList_val (v := ?_) (by rfl) ?_ ?_
              rotate_left
              · (go_simp; (try (first | with_reducible rfl | (constructor <;> with_reducible rfl))))
              (try simp only [Act.put, nA, nB, nC])
              refine wpList_val (v := ?_) (by rfl) ?_ ?_
              rotate_left
              · (go_simp; (try (first | with_reducible rfl | (constructor <;> with_reducible rfl))))
              (try simp only [Act.put, nA, nB, nC])
              refine wpList_val (v := ?_) (by rfl) ?_ ?_
              rotate_left
              · (go_simp; (try (first | with_reducible rfl | (constructor <;> with_reducible rfl))))
              (try simp only [Act.put, nA, nB, nC])
              refine wpList_val (v := ?_) (by rfl) ?_ ?_
              rotate_left
              · (go_simp; (try (first | with_reducible rfl | (constructor <;> with_reducible rfl))))
              (try simp only [Act.put, nA, nB, nC])
              refine wpList_val (v := ?_) (by rfl) ?_ ?_
              rotate_left
              · (go_simp; (try (first | with_reducible rfl | (constructor <;> with_reducible rfl))))
              (try simp only [Act.put, nA, nB, nC])
              refine wpList_val (v := ?_) (by rfl) ?_ ?_
              rotate_left
              · (go_simp; (try (first | with_reducible rfl | (constructor <;> with_reducible rfl))))
              (try simp only [Act.put, nA, nB, nC])
              refine wpList_val (v := ?_) (by rfl) ?_ ?_
              rotate_left
              · (go_simp; (try (first | with_reducible rfl | (constructor <;> with_reducible rfl))))
              (try simp only [Act.put, nA, nB, nC])
              refine wpList_val (v := ?_) (by rfl) ?_ ?_
              rotate_left
              · (go_simp; (try (first | with_reducible rfl | (constructor <;> with_reducible rfl))))
              (try simp only [Act.put, nA, nB, nC])
              refine wpList_skip (by have h := HC.out; subst h; rfl) ?_
              (try simp only [Act.put, nA, nB, nC])
              refine wpList_skip (by have h := HC.out; subst h; rfl) ?_
              (try simp only [Act.put, nA, nB, nC])
              refine wpList_skip (by have h := HC.out; subst h; rfl) ?_
              (try simp only [Act.put, nA, nB, nC])
              refine wpList_skip (by have h := HC.out; subst h; rfl) ?_
              (try simp only [Act.put, nA, nB, nC])
              refine wpList_skip (by have h := HC.out; subst h; rfl) ?_
              (try simp only [Act.put, nA, nB, nC])
              refine wpList_skip (by have h := HC.out; subst h; rfl) ?_
              (try simp only [Act.put, nA, nB, nC])
              refine wpList_skip (by have h := HC.out; subst h; rfl) ?_
              (try simp only [Act.put, nA, nB, nC])
              refine wpList_skip (by have h := HC.out; subst h; rfl) ?_
              (try simp only [Act.put, nA, nB, nC])
              refine wpList_val (v := .bool c) (by rfl) ?_ ?_
              · (have h := HC.out; subst h; go_simp; (try (first | with_reducible rfl | (constructor <;> with_reducible rfl))))
              (try simp only [Act.put, nA, nB, nC])
              refine wpList_val (v := ?_) (by rfl) ?_ ?_
              rotate_left
              · (go_simp; (try (first | with_reducible rfl | (constructor <;> with_reducible rfl))))
              (try simp only [Act.put, nA, nB, nC])
              refine wpList_skip (by have h := HC.out; subst h; rfl) ?_
              (try simp only [Act.put, nA, nB, nC])
              refine wpList_skip (by have h := HC.out; subst h; rfl) ?_
              (try simp only [Act.put, nA, nB, nC])
              refine wpList_skip (by have h := HC.out; subst h; rfl) ?_
              (try simp only [Act.put, nA, nB, nC])
              refine wpList_skip (by have h := HC.out; subst h; rfl) ?_
              (try simp only [Act.put, nA, nB, nC])
              refine wpList_skip (by have h := HC.out; subst h; rfl) ?_
              (try simp only [Act.put, nA, nB, nC])
              refine wpList_val (v := .bool c) (by rfl) ?_ ?_
              · (have h := HC.out; subst h; go_simp; (try (first | with_reducible rfl | (constructor <;> with_reducible rfl))))
              (try simp only [Act.put, nA, nB, nC])
              refine wpList_val (v := ?_) (by rfl) ?_ ?_
              rotate_left
              · (go_simp; (try (first | with_reducible rfl | (constructor <;> with_reducible rfl))))
              (try simp only [Act.put, nA, nB, nC])
              refine wpList_skip (by have h := HC.out; subst h; rfl) ?_
              (try simp only [Act.put, nA, nB, nC])
              refine wpList_skip (by have h := HC.out; subst h; rfl) ?_
              (try simp only [Act.put, nA, nB, nC])
              refine wpList_skip (by have h := HC.out; subst h; rfl) ?_
              (try simp only [Act.put, nA, nB, nC])
              refine wpList_skip (by have h := HC.out; subst h; rfl) ?_
              (try simp only [Act.put, nA, nB, nC])
              refine wpList_skip (by have h := HC.out; subst h; rfl) ?_
              (try simp only [Act.put, nA, nB, nC])
              refine wpList_val (v := .bool c) (by rfl) ?_ ?_
              · (have h := HC.out; subst h; go_simp; (try (first | with_reducible rfl | (constructor <;> with_reducible rfl))))
              (try simp only [Act.put, nA, nB, nC])
              refine wpList_val (v := ?_) (by rfl) ?_ ?_
              rotate_left
              · (go_simp; (try (first | with_reducible rfl | (constructor <;> with_reducible rfl))))
              (try simp only [Act.put, nA, nB, nC])
              refine wpList_skip (by have h := HC.out; subst h; rfl) ?_
              (try simp only [Act.put, nA, nB, nC])
              refine wpList_skip (by have h := HC.out; subst h; rfl) ?_
              (try simp only [Act.put, nA, nB, nC])
              refine wpList_skip (by have h := HC.out; subst h; rfl) ?_
              (try simp only [Act.put, nA, nB, nC])
              refine wpList_skip (by have h := HC.out; subst h; rfl) ?_
              (try simp only [Act.put, nA, nB, nC])
              refine wpList_skip (by have h := HC.out; subst h; rfl) ?_
              (try simp only [Act.put, nA, nB, nC])
              refine wpList_val (v := .bool c) (by rfl) ?_ ?_
              · (have h := HC.out; subst h; go_simp; (try (first | with_reducible rfl | (constructor <;> with_reducible rfl))))
              (try simp only [Act.put, nA, nB, nC])
              refine wpList_val (v := ?_) (by rfl) ?_ ?_
              rotate_left
              · (go_simp; (try (first | with_reducible rfl | (constructor <;> with_reducible rfl))))
              (try simp only [Act.put, nA, nB, nC])
              refine wpList_skip (by have h := HC.out; subst h; rfl) ?_
              (try simp only [Act.put, nA, nB, nC])
              refine wpList_skip (by have h := HC.out; subst h; rfl) ?_
              (try simp only [Act.put, nA, nB, nC])
              refine wpList_skip (by have h := HC.out; subst h; rfl) ?_
              (try simp only [Act.put, nA, nB, nC])
              refine wpList_skip (by have h := HC.out; subst h; rfl) ?_
              (try simp only [Act.put, nA, nB, nC])
              refine wpList_skip (by have h := HC.out; subst h; rfl) ?_
              (try simp only [Act.put, nA, nB, nC])
              refine wpList_val (v := .bool c) (by rfl) ?_ ?_
              · (have h := HC.out; subst h; go_simp; (try (first | with_reducible rfl | (constructor <;> with_reducible rfl))))
              (try simp only [Act.put, nA, nB, nC])
              refine wpList_nil ?_
              have h := HC.out
              subst h
              go_wp2_with fail
              go_ret
              exact ⟨rfl, G3.out.below⟩
            have e2 : decide (4503599627370496 < a2) = false := by simpa using h2
            by_cases h3 : a2 < -4503599627370496
            · obtain ⟨c, hc⟩ : ∃ c, decide (a2 < -4503599627370496) = c := ⟨_, rfl⟩
              have HC := Lib.hid (show c = true by rw [← hc]; simpa using h3)
              clear h3 HO
              refine wp_region_lit ?_
              refine wpList_val (v := ?_) (by rfl) ?_ ?_
              rotate_left
              · (go_simp; (try (first | with_reducible rfl | (constructor <;> with_reducible rfl))))
              (try simp only [Act.put, nA, nB, nC])
              refine wpList_val (v := ?_) (by rfl) ?_ ?_
              rotate_left
              · (go_simp; (try (first | with_reducible rfl | (constructor <;> with_reducible rfl))))
              (try simp only [Act.put, nA, nB, nC])
              refine wpList_val (v := ?_) (by rfl) ?_ ?_
              rotate_left
              · (go_simp; (try (first | with_reducible rfl | (constructor <;> with_reducible rfl))))
              (try simp only [Act.put, nA, nB, nC])
              refine wpList_val (v := ?_) (by rfl) ?_ ?_
              rotate_left
              · (go_simp; (try (first | with_reducible rfl | (constructor <;> with_reducible rfl))))
              (try simp only [Act.put, nA, nB, nC])
              refine wpList_val (v := ?_) (by rfl) ?_ ?_
              rotate_left
              · (go_simp; (try (first | with_reducible rfl | (constructor <;> with_reducible rfl))))
              (try simp only [Act.put, nA, nB, nC])
              refine wpList_val (v := ?_) (by rfl) ?_ ?_
              rotate_left
              · (go_simp; (try (first | with_reducible rfl | (constructor <;> with_reducible rfl))))
              (try simp only [Act.put, nA, nB, nC])
              refine wpList_val (v := ?_) (by rfl) ?_ ?_
              rotate_left
              · (go_simp; (try (first | with_reducible rfl | (constructor <;> with_reducible rfl))))
              (try simp only [Act.put, nA, nB, nC])
              refine wpList_val (v := ?_) (by rfl) ?_ ?_
              rotate_left
              · (go_simp; (try (first | with_reducible rfl | (constructor <;> with_reducible rfl))))
              (try simp only [Act.put, nA, nB, nC])
              refine wpList_val (v := ?_) (by rfl) ?_ ?_
              rotate_left
              · (go_simp; (try (first | with_reducible rfl | (constructor <;> with_reducible rfl))))
              (try simp only [Act.put, nA, nB, nC])
              refine wpList_val (v := ?_) (by rfl) ?_ ?_
              rotate_left
              · (go_simp; (try (first | with_reducible rfl | (constructor <;> with_reducible rfl))))
              (try simp only [Act.put, nA, nB, nC])
              refine wpList_val (v := ?_) (by rfl) ?_ ?_
              rotate_left
              · (go_simp; (try (first | with_reducible rfl | (constructor <;> with_reducible rfl))))
              (try simp only [Act.put, nA, nB, nC])
              refine wpList_val (v := ?_) (by rfl) ?_ ?_
              rotate_left
              · (go_simp; (try (first | with_reducible rfl | (constructor <;> with_reducible rfl))))
              (try simp only [Act.put, nA, nB, nC])
              refine wpList_val (v := ?_) (by rfl) ?_ ?_
              rotate_left
              · (go_simp; (try (first | with_reducible rfl | (constructor <;> with_reducible rfl))))
              (try simp only [Act.put, nA, nB, nC])
              refine wpList_val (v := ?_) (by rfl) ?_ ?_
              rotate_left
              · (go_simp; (try (first | with_reducible rfl | (constructor <;> with_reducible rfl))))
              (try simp only [Act.put, nA, nB, nC])
              refine wpList_val (v := ?_) (by rfl) ?_ ?_
              rotate_left
              · (go_simp; (try (first | with_reducible rfl | (constructor <;> with_reducible rfl))))
              (try simp only [Act.put, nA, nB, nC])
              refine wpList_val (v := ?_) (by rfl) ?_ ?_
              rotate_left
              · (go_simp; (try (first | with_reducible rfl | (constructor <;> with_reducible rfl))))
              (try simp only [Act.put, nA, nB, nC])
              refine wpList_val (v := ?_) (by rfl) ?_ ?_
              rotate_left
              · (go_simp; (try (first | with_reducible rfl | (constructor <;> with_reducible rfl))))
              (try simp only [Act.put, nA, nB, nC])
              refine wpList_val (v := ?_) (by rfl) ?_ ?_
              rotate_left
              · (go_simp; (try (first | with_reducible rfl | (constructor <;> with_reducible rfl))))
              (try simp only [Act.put, nA, nB, nC])
              refine wpList_val (v := ?_) (by rfl) ?_ ?_
              rotate_left
              · (go_simp; (try (first | with_reducible rfl | (constructor <;> with_reducible rfl))))
              (try simp only [Act.put, nA, nB, nC])
              refine wpList_val (v := ?_) (by rfl) ?_ ?_
              rotate_left
              · (go_simp; (try (first | with_reducible rfl | (constructor <;> with_reducible rfl))))
              (try simp only [Act.put, nA, nB, nC])
              refine wpList_val (v := ?_) (by rfl) ?_ ?_
              rotate_left
              · (go_simp; (try (first | with_reducible rfl | (constructor <;> with_reducible rfl))))
              (try simp only [Act.put, nA, nB, nC])
              refine wpList_val (v := ?_) (by rfl) ?_ ?_
              rotate_left
              · (go_simp; (try (first | with_reducible rfl | (constructor <;> with_reducible rfl))))
              (try simp only [Act.put, nA, nB, nC])
              refine wpList_val (v := ?_) (by rfl) ?_ ?_
              rotate_left
              · (go_simp; (try (first | with_reducible rfl | (constructor <;> with_reducible rfl))))
              (try simp only [Act.put, nA, nB, nC])
              refine wpList_val (v := ?_) (by rfl) ?_ ?_
              rotate_left
              · (go_simp; (try (first | with_reducible rfl | (constructor <;> with_reducible rfl))))
              (try simp only [Act.put, nA, nB, nC])
              refine wpList_val (v := ?_) (by rfl) ?_ ?_
              rotate_left
              · (go_simp; (try (first | with_reducible rfl | (constructor <;> with_reducible rfl))))
              (try simp only [Act.put, nA, nB, nC])
              refine wpList_val (v := ?_) (by rfl) ?_ ?_
              rotate_left
              · (go_simp; (try (first | with_reducible rfl | (constructor <;> with_reducible rfl))))
              (try simp only [Act.put, nA, nB, nC])
              refine wpList_val (v := ?_) (by rfl) ?_ ?_
              rotate_left
              · (go_simp; (try (first | with_reducible rfl | (constructor <;> with_reducible rfl))))
              (try simp only [Act.put, nA, nB, nC])
              refine wpList_val (v := ?_) (by rfl) ?_ ?_
              rotate_left
              · (go_simp; (try (first | with_reducible rfl | (constructor <;> with_reducible rfl))))
              (try simp only [Act.put, nA, nB, nC])
              refine wpList_val (v := ?_) (by rfl) ?_ ?_
              rotate_left
              · (go_simp; (try (first | with_reducible rfl | (constructor <;> with_reducible rfl))))
              (try simp only [Act.put, nA, nB, nC])
              refine wpList_val (v := ?_) (by rfl) ?_ ?_
              rotate_left
              · (go_simp; (try (first | with_reducible rfl | (constructor <;> with_reducible rfl))))
              (try simp only [Act.put, nA, nB, nC])
              refine wpList_val (v := ?_) (by rfl) ?_ ?_
              rotate_left
              · (go_simp; (try (first | with_reducible rfl | (constructor <;> with_reducible rfl))))
              (try simp only [Act.put, nA, nB, nC])
              refine wpList_val (v := ?_) (by rfl) ?_ ?_
              rotate_left
              · (go_simp; (try (first | with_reducible rfl | (constructor <;> with_reducible rfl))))
              (try simp only [Act.put, nA, nB, nC])
              refine wpList_val (v := ?_) (by rfl) ?_ ?_
              rotate_left
              · (go_simp; (try (first | with_reducible rfl | (constructor <;> with_reducible rfl))))
              (try simp only [Act.put, nA, nB, nC])
              refine wpList_val (v := ?_) (by rfl) ?_ ?_
              rotate_left
              · (go_simp; (try (first | with_reducible rfl | (constructor <;> with_reducible rfl))))
              (try simp only [Act.put, nA, nB, nC])
              refine wpList_val (v := ?_) (by rfl) ?_ ?_
              rotate_left
              · (go_simp; (try (first | with_reducible rfl | (constructor <;> with_reducible rfl))))
              (try simp only [Act.put, nA, nB, nC])
              refine wpList_val (v := ?_) (by rfl) ?_ ?_
              rotate_left
              · (go_simp; (try (first | with_reducible rfl | (constructor <;> with_reducible rfl))))
              (try simp only [Act.put, nA, nB, nC])
              refine wpList_val (v := ?_) (by rfl) ?_ ?_
              rotate_left
              · (go_simp; (try (first | with_reducible rfl | (constructor <;> with_reducible rfl))))
              (try simp only [Act.put, nA, nB, nC])
              refine wpList_val (v := ?_) (by rfl) ?_ ?_
              rotate_left
              · (go_simp; (try (first | with_reducible rfl | (constructor <;> with_reducible rfl))))
              (try simp only [Act.put, nA, nB, nC])
              refine wpList_val (v := ?_) (by rfl) ?_ ?_
              rotate_left
              · (go_simp; (try (first | with_reducible rfl | (constructor <;> with_reducible rfl))))
              (try simp only [Act.put, nA, nB, nC])
              refine wpList_skip (by have h := HC.out; subst h; rfl) ?_
              (try simp only [Act.put, nA, nB, nC])
              refine wpList_skip (by have h := HC.out; subst h; rfl) ?_
              (try simp only [Act.put, nA, nB, nC])
              refine wpList_skip (by have h := HC.out; subst h; rfl) ?_
              (try simp only [Act.put, nA, nB, nC])
              refine wpList_skip (by have h := HC.out; subst h; rfl) ?_
              (try simp only [Act.put, nA, nB, nC])
              refine wpList_skip (by have h := HC.out; subst h; rfl) ?_
              (try simp only [Act.put, nA, nB, nC])
              refine wpList_val (v := .bool c) (by rfl) ?_ ?_
              · (have h := HC.out; subst h; go_simp; (try (first | with_reducible rfl | (constructor <;> with_reducible rfl))))
              (try simp only [Act.put, nA, nB, nC])
              refine wpList_val (v := ?_) (by rfl) ?_ ?_
              rotate_left
              · (go_simp; (try (first | with_reducible rfl | (constructor <;> with_reducible rfl))))
              (try simp only [Act.put, nA, nB, nC])
              refine wpList_skip (by have h := HC.out; subst h; rfl) ?_
              (try simp only [Act.put, nA, nB, nC])
              refine wpList_skip (by have h := HC.out; subst h; rfl) ?_
              (try simp only [Act.put, nA, nB, nC])
              refine wpList_skip (by have h := HC.out; subst h; rfl) ?_
              (try simp only [Act.put, nA, nB, nC])
              refine wpList_skip (by have h := HC.out; subst h; rfl) ?_
              (try simp only [Act.put, nA, nB, nC])
              refine wpList_skip (by have h := HC.out; subst h; rfl) ?_
              (try simp only [Act.put, nA, nB, nC])
              refine wpList_val (v := .bool c) (by rfl) ?_ ?_
              · (have h := HC.out; subst h; go_simp; (try (first | with_reducible rfl | (constructor <;> with_reducible rfl))))
              (try simp only [Act.put, nA, nB, nC])
              refine wpList_val (v := ?_) (by rfl) ?_ ?_
              rotate_left
              · (go_simp; (try (first | with_reducible rfl | (constructor <;> with_reducible rfl))))
              (try simp only [Act.put, nA, nB, nC])
              refine wpList_skip (by have h := HC.out; subst h; rfl) ?_
              (try simp only [Act.put, nA, nB, nC])
              refine wpList_skip (by have h := HC.out; subst h; rfl) ?_
              (try simp only [Act.put, nA, nB, nC])
              refine wpList_skip (by have h := HC.out; subst h; rfl) ?_
              (try simp only [Act.put, nA, nB, nC])
              refine wpList_skip (by have h := HC.out; subst h; rfl) ?_
              (try simp only [Act.put, nA, nB, nC])
              refine wpList_skip (by have h := HC.out; subst h; rfl) ?_
              (try simp only [Act.put, nA, nB, nC])
              refine wpList_val (v := .bool c) (by rfl) ?_ ?_
              · (have h := HC.out; subst h; go_simp; (try (first | with_reducible rfl | (constructor <;> with_reducible rfl))))
              (try simp only [Act.put, nA, nB, nC])
              refine wpList_val (v := ?_) (by rfl) ?_ ?_
              rotate_left
              · (go_simp; (try (first | with_reducible rfl | (constructor <;> with_reducible rfl))))
              (try simp only [Act.put, nA, nB, nC])
              refine wpList_skip (by have h := HC.out; subst h; rfl) ?_
              (try simp only [Act.put, nA, nB, nC])
              refine wpList_skip (by have h := HC.out; subst h; rfl) ?_
              (try simp only [Act.put, nA, nB, nC])
              refine wpList_skip (by have h := HC.out; subst h; rfl) ?_
              (try simp only [Act.put, nA, nB, nC])
              refine wpList_skip (by have h := HC.out; subst h; rfl) ?_
              (try simp only [Act.put, nA, nB, nC])
              refine wpList_skip (by have h := HC.out; subst h; rfl) ?_
              (try simp only [Act.put, nA, nB, nC])
              refine wpList_val (v := .bool c) (by rfl) ?_ ?_
              · (have h := HC.out; subst h; go_simp; (try (first | with_reducible rfl | (constructor <;> with_reducible rfl))))
              (try simp only [Act.put, nA, nB, nC])
              refine wpList_nil ?_
              have h := HC.out
              subst h
              go_wp2_with fail
              go_ret
              exact ⟨rfl, G3.out.below⟩
            have e3 : decide (a2 < -4503599627370496) = false := by simpa using h3
            by_cases h4 : 274877906944 < d1'
            · obtain ⟨c, hc⟩ : ∃ c, decide (274877906944 < d1') = c := ⟨_, rfl⟩
              have HC := Lib.hid (show c = true by rw [← hc]; simpa using h4)
              clear h4 HO
              refine wp_region_lit ?_
              refine wpList_val (v := ?_) (by rfl) ?_ ?_
              rotate_left
              · (go_simp; (try (first | with_reducible rfl | (constructor <;> with_reducible rfl))))
              (try simp only [Act.put, nA, nB, nC])
              refine wpList_val (v := ?_) (by rfl) ?_ ?_
              rotate_left
              · (go_simp; (try (first | with_reducible rfl | (constructor <;> with_reducible rfl))))
              (try simp only [Act.put, nA, nB, nC])
              refine wpList_val (v := ?_) (by rfl) ?_ ?_
              rotate_left
              · (go_simp; (try (first | with_reducible rfl | (constructor <;> with_reducible rfl))))
              (try simp only [Act.put, nA, nB, nC])
              refine wpList_val (v := ?_) (by rfl) ?_ ?_
              rotate_left
              · (go_simp; (try (first | with_reducible rfl | (constructor <;> with_reducible rfl))))
              (try simp only [Act.put, nA, nB, nC])
              refine wpList_val (v := ?_) (by rfl) ?_ ?_
              rotate_left
              · (go_simp; (try (first | with_reducible rfl | (constructor <;> with_reducible rfl))))
              (try simp only [Act.put, nA, nB, nC])
              refine wpList_val (v := ?_) (by rfl) ?_ ?_
              rotate_left
              · (go_simp; (try (first | with_reducible rfl | (constructor <;> with_reducible rfl))))
              (try simp only [Act.put, nA, nB, nC])
              refine wpList_val (v := ?_) (by rfl) ?_ ?_
              rotate_left
              · (go_simp; (try (first | with_reducible rfl | (constructor <;> with_reducible rfl))))
              (try simp only [Act.put, nA, nB, nC])
              refine wpList_val (v := ?_) (by rfl) ?_ ?_
              rotate_left
              · (go_simp; (try (first | with_reducible rfl | (constructor <;> with_reducible rfl))))
              (try simp only [Act.put, nA, nB, nC])
              refine wpList_val (v := ?_) (by rfl) ?_ ?_
              rotate_left
              · (go_simp; (try (first | with_reducible rfl | (constructor <;> with_reducible rfl))))
              (try simp only [Act.put, nA, nB, nC])
              refine wpList_val (v := ?_) (by rfl) ?_ ?_
              rotate_left
              · (go_simp; (try (first | with_reducible rfl | (constructor <;> with_reducible rfl))))
              (try simp only [Act.put, nA, nB, nC])
              refine wpList_val (v := ?_) (by rfl) ?_ ?_
              rotate_left
              · (go_simp; (try (first | with_reducible rfl | (constructor <;> with_reducible rfl))))
              (try simp only [Act.put, nA, nB, nC])
              refine wpList_val (v := ?_) (by rfl) ?_ ?_
              rotate_left
              · (go_simp; (try (first | with_reducible rfl | (constructor <;> with_reducible rfl))))
              (try simp only [Act.put, nA, nB, nC])
              refine wpList_val (v := ?_) (by rfl) ?_ ?_
              rotate_left
              · (go_simp; (try (first | with_reducible rfl | (constructor <;> with_reducible rfl))))
              (try simp only [Act.put, nA, nB, nC])
              refine wpList_val (v := ?_) (by rfl) ?_ ?_
              rotate_left
              · (go_simp; (try (first | with_reducible rfl | (constructor <;> with_reducible rfl))))
              (try simp only [Act.put, nA, nB, nC])
              refine wpList_val (v := ?_) (by rfl) ?_ ?_
              rotate_left
              · (go_simp; (try (first | with_reducible rfl | (constructor <;> with_reducible rfl))))
              (try simp only [Act.put, nA, nB, nC])
              refine wpList_val (v := ?_) (by rfl) ?_ ?_
              rotate_left
              · (go_simp; (try (first | with_reducible rfl | (constructor <;> with_reducible rfl))))
              (try simp only [Act.put, nA, nB, nC])
              refine wpList_val (v := ?_) (by rfl) ?_ ?_
              rotate_left
              · (go_simp; (try (first | with_reducible rfl | (constructor <;> with_reducible rfl))))
              (try simp only [Act.put, nA, nB, nC])
              refine wpList_val (v := ?_) (by rfl) ?_ ?_
              rotate_left
              · (go_simp; (try (first | with_reducible rfl | (constructor <;> with_reducible rfl))))
              (try simp only [Act.put, nA, nB, nC])
              refine wpList_val (v := ?_) (by rfl) ?_ ?_
              rotate_left
              · (go_simp; (try (first | with_reducible rfl | (constructor <;> with_reducible rfl))))
              (try simp only [Act.put, nA, nB, nC])
              refine wpList_val (v := ?_) (by rfl) ?_ ?_
              rotate_left
              · (go_simp; (try (first | with_reducible rfl | (constructor <;> with_reducible rfl))))
              (try simp only [Act.put, nA, nB, nC])
              refine wpList_val (v := ?_) (by rfl) ?_ ?_
              rotate_left
              · (go_simp; (try (first | with_reducible rfl | (constructor <;> with_reducible rfl))))
              (try simp only [Act.put, nA, nB, nC])
              refine wpList_val (v := ?_) (by rfl) ?_ ?_
              rotate_left
              · (go_simp; (try (first | with_reducible rfl | (constructor <;> with_reducible rfl))))
              (try simp only [Act.put, nA, nB, nC])
              refine wpList_val (v := ?_) (by rfl) ?_ ?_
              rotate_left
              · (go_simp; (try (first | with_reducible rfl | (constructor <;> with_reducible rfl))))
              (try simp only [Act.put, nA, nB, nC])
              refine wpList_val (v := ?_) (by rfl) ?_ ?_
              rotate_left
              · (go_simp; (try (first | with_reducible rfl | (constructor <;> with_reducible rfl))))
              (try simp only [Act.put, nA, nB, nC])
              refine wpList_val (v := ?_) (by rfl) ?_ ?_
              rotate_left
              · (go_simp; (try (first | with_reducible rfl | (constructor <;> with_reducible rfl))))
              (try simp only [Act.put, nA, nB, nC])
              refine wpList_val (v := ?_) (by rfl) ?_ ?_
              rotate_left
              · (go_simp; (try (first | with_reducible rfl | (constructor <;> with_reducible rfl))))
              (try simp only [Act.put, nA, nB, nC])
              refine wpList_val (v := ?_) (by rfl) ?_ ?_
              rotate_left
              · (go_simp; (try (first | with_reducible rfl | (constructor <;> with_reducible rfl))))
              (try simp only [Act.put, nA, nB, nC])
              refine wpList_val (v := ?_) (by rfl) ?_ ?_
              rotate_left
              · (go_simp; (try (first | with_reducible rfl | (constructor <;> with_reducible rfl))))
              (try simp only [Act.put, nA, nB, nC])
              refine wpList_val (v := ?_) (by rfl) ?_ ?_
              rotate_left
              · (go_simp; (try (first | with_reducible rfl | (constructor <;> with_reducible rfl))))
              (try simp only [Act.put, nA, nB, nC])
              refine wpList_val (v := ?_) (by rfl) ?_ ?_
              rotate_left
              · (go_simp; (try (first | with_reducible rfl | (constructor <;> with_reducible rfl))))
              (try simp only [Act.put, nA, nB, nC])
              refine wpList_val (v := ?_) (by rfl) ?_ ?_
              rotate_left
              · (go_simp; (try (first | with_reducible rfl | (constructor <;> with_reducible rfl))))
              (try simp only [Act.put, nA, nB, nC])
              refine wpList_val (v := ?_) (by rfl) ?_ ?_
              rotate_left
              · (go_simp; (try (first | with_reducible rfl | (constructor <;> with_reducible rfl))))
              (try simp only [Act.put, nA, nB, nC])
              refine wpList_val (v := ?_) (by rfl) ?_ ?_
              rotate_left
              · (go_simp; (try (first | with_reducible rfl | (constructor <;> with_reducible rfl))))
              (try simp only [Act.put, nA, nB, nC])
              refine wpList_val (v := ?_) (by rfl) ?_ ?_
              rotate_left
              · (go_simp; (try (first | with_reducible rfl | (constructor <;> with_reducible rfl))))
              (try simp only [Act.put, nA, nB, nC])
              refine wpList_val (v := ?_) (by rfl) ?_ ?_
              rotate_left
              · (go_simp; (try (first | with_reducible rfl | (constructor <;> with_reducible rfl))))
              (try simp only [Act.put, nA, nB, nC])
              refine wpList_val (v := ?_) (by rfl) ?_ ?_
              rotate_left
              · (go_simp; (try (first | with_reducible rfl | (constructor <;> with_reducible rfl))))
              (try simp only [Act.put, nA, nB, nC])
              refine wpList_val (v := ?_) (by rfl) ?_ ?_
              rotate_left
              · (go_simp; (try (first | with_reducible rfl | (constructor <;> with_reducible rfl))))
              (try simp only [Act.put, nA, nB, nC])
              refine wpList_val (v := ?_) (by rfl) ?_ ?_
              rotate_left
              · (go_simp; (try (first | with_reducible rfl | (constructor <;> with_reducible rfl))))
              (try simp only [Act.put, nA, nB, nC])
              refine wpList_val (v := ?_) (by rfl) ?_ ?_
              rotate_left
              · (go_simp; (try (first | with_reducible rfl | (constructor <;> with_reducible rfl))))
              (try simp only [Act.put, nA, nB, nC])
              refine wpList_val (v := ?_) (by rfl) ?_ ?_
              rotate_left
              · (go_simp; (try (first | with_reducible rfl | (constructor <;> with_reducible rfl))))
              (try simp only [Act.put, nA, nB, nC])
              refine wpList_val (v := ?_) (by rfl) ?_ ?_
              rotate_left
              · (go_simp; (try (first | with_reducible rfl | (constructor <;> with_reducible rfl))))
              (try simp only [Act.put, nA, nB, nC])
              refine wpList_val (v := ?_) (by rfl) ?_ ?_
              rotate_left
              · (go_simp; (try (first | with_reducible rfl | (constructor <;> with_reducible rfl))))
              (try simp only [Act.put, nA, nB, nC])
              refine wpList_val (v := ?_) (by rfl) ?_ ?_
              rotate_left
              · (go_simp; (try (first | with_reducible rfl | (constructor <;> with_reducible rfl))))
              (try simp only [Act.put, nA, nB, nC])
              refine wpList_val (v := ?_) (by rfl) ?_ ?_
              rotate_left
              · (go_simp; (try (first | with_reducible rfl | (constructor <;> with_reducible rfl))))
              (try simp only [Act.put, nA, nB, nC])
              refine wpList_val (v := ?_) (by rfl) ?_ ?_
              rotate_left
              · (go_simp; (try (first | with_reducible rfl | (constructor <;> with_reducible rfl))))
              (try simp only [Act.put, nA, nB, nC])
              refine wpList_val (v := ?_) (by rfl) ?_ ?_
              rotate_left
              · (go_simp; (try (first | with_reducible rfl | (constructor <;> with_reducible rfl))))
              (try simp only [Act.put, nA, nB, nC])
              refine wpList_skip (by have h := HC.out; subst h; rfl) ?_
              (try simp only [Act.put, nA, nB, nC])
              refine wpList_skip (by have h := HC.out; subst h; rfl) ?_
              (try simp only [Act.put, nA, nB, nC])
              refine wpList_skip (by have h := HC.out; subst h; rfl) ?_
              (try simp only [Act.put, nA, nB, nC])
              refine wpList_skip (by have h := HC.out; subst h; rfl) ?_
              (try simp only [Act.put, nA, nB, nC])
              refine wpList_skip (by have h := HC.out; subst h; rfl) ?_
              (try simp only [Act.put, nA, nB, nC])
              refine wpList_val (v := .bool c) (by rfl) ?_ ?_
              · (have h := HC.out; subst h; go_simp; (try (first | with_reducible rfl | (constructor <;> with_reducible rfl))))
              (try simp only [Act.put, nA, nB, nC])
              refine wpList_val (v := ?_) (by rfl) ?_ ?_
              rotate_left
              · (go_simp; (try (first | with_reducible rfl | (constructor <;> with_reducible rfl))))
              (try simp only [Act.put, nA, nB, nC])
              refine wpList_skip (by have h := HC.out; subst h; rfl) ?_
              (try simp only [Act.put, nA, nB, nC])
              refine wpList_skip (by have h := HC.out; subst h; rfl) ?_
              (try simp only [Act.put, nA, nB, nC])
              refine wpList_skip (by have h := HC.out; subst h; rfl) ?_
              (try simp only [Act.put, nA, nB, nC])
              refine wpList_skip (by have h := HC.out; subst h; rfl) ?_
              (try simp only [Act.put, nA, nB, nC])
              refine wpList_skip (by have h := HC.out; subst h; rfl) ?_
              (try simp only [Act.put, nA, nB, nC])
              refine wpList_val (v := .bool c) (by rfl) ?_ ?_
              · (have h := HC.out; subst h; go_simp; (try (first | with_reducible rfl | (constructor <;> with_reducible rfl))))
              (try simp only [Act.put, nA, nB, nC])
              refine wpList_val (v := ?_) (by rfl) ?_ ?_
              rotate_left
              · (go_simp; (try (first | with_reducible rfl | (constructor <;> with_reducible rfl))))
              (try simp only [Act.put, nA, nB, nC])
              refine wpList_skip (by have h := HC.out; subst h; rfl) ?_
              (try simp only [Act.put, nA, nB, nC])
              refine wpList_skip (by have h := HC.out; subst h; rfl) ?_
              (try simp only [Act.put, nA, nB, nC])
              refine wpList_skip (by have h := HC.out; subst h; rfl) ?_
              (try simp only [Act.put, nA, nB, nC])
              refine wpList_skip (by have h := HC.out; subst h; rfl) ?_
              (try simp only [Act.put, nA, nB, nC])
              refine wpList_skip (by have h := HC.out; subst h; rfl) ?_
              (try simp only [Act.put, nA, nB, nC])
              refine wpList_val (v := .bool c) (by rfl) ?_ ?_
              · (have h := HC.out; subst h; go_simp; (try (first | with_reducible rfl | (constructor <;> with_reducible rfl))))
              (try simp only [Act.put, nA, nB, nC])
              refine wpList_nil ?_
              have h := HC.out
              subst h
              go_wp2_with fail
              go_ret
              exact ⟨rfl, G3.out.below⟩
            have e4 : decide (274877906944 < d1') = false := by simpa using h4
            by_cases h5 : d1' < -274877906944
            · obtain ⟨c, hc⟩ : ∃ c, decide (d1' < -274877906944) = c := ⟨_, rfl⟩
              have HC := Lib.hid (show c = true by rw [← hc]; simpa using h5)
              clear h5 HO
              refine wp_region_lit ?_
              refine wpList_val (v := ?_) (by rfl) ?_ ?_
              rotate_left
              · (go_simp; (try (first | with_reducible rfl | (constructor <;> with_reducible rfl))))
              (try simp only [Act.put, nA, nB, nC])
              refine wpList_val (v := ?_) (by rfl) ?_ ?_
              rotate_left
              · (go_simp; (try (first | with_reducible rfl | (constructor <;> with_reducible rfl))))
              (try simp only [Act.put, nA, nB, nC])
              refine wpList_val (v := ?_) (by rfl) ?_ ?_
              rotate_left
              · (go_simp; (try (first | with_reducible rfl | (constructor <;> with_reducible rfl))))
              (try simp only [Act.put, nA, nB, nC])
              refine wpList_val (v := ?_) (by rfl) ?_ ?_
              rotate_left
              · (go_simp; (try (first | with_reducible rfl | (constructor <;> with_reducible rfl))))
              (try simp only [Act.put, nA, nB, nC])
              refine wpList_val (v := ?_) (by rfl) ?_ ?_
              rotate_left
              · (go_simp; (try (first | with_reducible rfl | (constructor <;> with_reducible rfl))))
              (try simp only [Act.put, nA, nB, nC])
              refine wpList_val (v := ?_) (by rfl) ?_ ?_
              rotate_left
              · (go_simp; (try (first | with_reducible rfl | (constructor <;> with_reducible rfl))))
              (try simp only [Act.put, nA, nB, nC])
              refine wpList_val (v := ?_) (by rfl) ?_ ?_
              rotate_left
              · (go_simp; (try (first | with_reducible rfl | (constructor <;> with_reducible rfl))))
              (try simp only [Act.put, nA, nB, nC])
              refine wpList_val (v := ?_) (by rfl) ?_ ?_
              rotate_left
              · (go_simp; (try (first | with_reducible rfl | (constructor <;> with_reducible rfl))))
              (try simp only [Act.put, nA, nB, nC])
              refine wpList_val (v := ?_) (by rfl) ?_ ?_
              rotate_left
              · (go_simp; (try (first | with_reducible rfl | (constructor <;> with_reducible rfl))))
              (try simp only [Act.put, nA, nB, nC])
              refine wpList_val (v := ?_) (by rfl) ?_ ?_
              rotate_left
              · (go_simp; (try (first | with_reducible rfl | (constructor <;> with_reducible rfl))))
              (try simp only [Act.put, nA, nB, nC])
              refine wpList_val (v := ?_) (by rfl) ?_ ?_
              rotate_left
              · (go_simp; (try (first | with_reducible rfl | (constructor <;> with_reducible rfl))))
              (try simp only [Act.put, nA, nB, nC])
              refine wpList_val (v := ?_) (by rfl) ?_ ?_
              rotate_left
              · (go_simp; (try (first | with_reducible rfl | (constructor <;> with_reducible rfl))))
              (try simp only [Act.put, nA, nB, nC])
              refine wpList_val (v := ?_) (by rfl) ?_ ?_
              rotate_left
              · (go_simp; (try (first | with_reducible rfl | (constructor <;> with_reducible rfl))))
              (try simp only [Act.put, nA, nB, nC])
              refine wpList_val (v := ?_) (by rfl) ?_ ?_
              rotate_left
              · (go_simp; (try (first | with_reducible rfl | (constructor <;> with_reducible rfl))))
              (try simp only [Act.put, nA, nB, nC])
              refine wpList_val (v := ?_) (by rfl) ?_ ?_
              rotate_left
              · (go_simp; (try (first | with_reducible rfl | (constructor <;> with_reducible rfl))))
              (try simp only [Act.put, nA, nB, nC])
              refine wpList_val (v := ?_) (by rfl) ?_ ?_
              rotate_left
              · (go_simp; (try (first | with_reducible rfl | (constructor <;> with_reducible rfl))))
              (try simp only [Act.put, nA, nB, nC])
              refine wpList_val (v := ?_) (by rfl) ?_ ?_
              rotate_left
              · (go_simp; (try (first | with_reducible rfl | (constructor <;> with_reducible rfl))))
              (try simp only [Act.put, nA, nB, nC])
              refine wpList_val (v := ?_) (by rfl) ?_ ?_
              rotate_left
              · (go_simp; (try (first | with_reducible rfl | (constructor <;> with_reducible rfl))))
              (try simp only [Act.put, nA, nB, nC])
              refine wpList_val (v := ?_) (by rfl) ?_ ?_
              rotate_left
              · (go_simp; (try (first | with_reducible rfl | (constructor <;> with_reducible rfl))))
              (try simp only [Act.put, nA, nB, nC])
              refine wpList_val (v := ?_) (by rfl) ?_ ?_
              rotate_left
              · (go_simp; (try (first | with_reducible rfl | (constructor <;> with_reducible rfl))))
              (try simp only [Act.put, nA, nB, nC])
              refine wpList_val (v := ?_) (by rfl) ?_ ?_
              rotate_left
              · (go_simp; (try (first | with_reducible rfl | (constructor <;> with_reducible rfl))))
              (try simp only [Act.put, nA, nB, nC])
              refine wpList_val (v := ?_) (by rfl) ?_ ?_
              rotate_left
              · (go_simp; (try (first | with_reducible rfl | (constructor <;> with_reducible rfl))))
              (try simp only [Act.put, nA, nB, nC])
              refine wpList_val (v := ?_) (by rfl) ?_ ?_
              rotate_left
              · (go_simp; (try (first | with_reducible rfl | (constructor <;> with_reducible rfl))))
              (try simp only [Act.put, nA, nB, nC])
              refine wpList_val (v := ?_) (by rfl) ?_ ?_
              rotate_left
              · (go_simp; (try (first | with_reducible rfl | (constructor <;> with_reducible rfl))))
              (try simp only [Act.put, nA, nB, nC])
              refine wpList_val (v := ?_) (by rfl) ?_ ?_
              rotate_left
              · (go_simp; (try (first | with_reducible rfl | (constructor <;> with_reducible rfl))))
              (try simp only [Act.put, nA, nB, nC])
              refine wpList_val (v := ?_) (by rfl) ?_ ?_
              rotate_left
              · (go_simp; (try (first | with_reducible rfl | (constructor <;> with_reducible rfl))))
              (try simp only [Act.put, nA, nB, nC])
              refine wpList_val (v := ?_) (by rfl) ?_ ?_
              rotate_left
              · (go_simp; (try (first | with_reducible rfl | (constructor <;> with_reducible rfl))))
              (try simp only [Act.put, nA, nB, nC])
              refine wpList_val (v := ?_) (by rfl) ?_ ?_
              rotate_left
              · (go_simp; (try (first | with_reducible rfl | (constructor <;> with_reducible rfl))))
              (try simp only [Act.put, nA, nB, nC])
              refine wpList_val (v := ?_) (by rfl) ?_ ?_
              rotate_left
              · (go_simp; (try (first | with_reducible rfl | (constructor <;> with_reducible rfl))))
              (try simp only [Act.put, nA, nB, nC])
              refine wpList_val (v := ?_) (by rfl) ?_ ?_
              rotate_left
              · (go_simp; (try (first | with_reducible rfl | (constructor <;> with_reducible rfl))))
              (try simp only [Act.put, nA, nB, nC])
              refine wpList_val (v := ?_) (by rfl) ?_ ?_
              rotate_left
              · (go_simp; (try (first | with_reducible rfl | (constructor <;> with_reducible rfl))))
              (try simp only [Act.put, nA, nB, nC])
              refine wpList_val (v := ?_) (by rfl) ?_ ?_
              rotate_left
              · (go_simp; (try (first | with_reducible rfl | (constructor <;> with_reducible rfl))))
              (try simp only [Act.put, nA, nB, nC])
              refine wpList_val (v := ?_) (by rfl) ?_ ?_
              rotate_left
              · (go_simp; (try (first | with_reducible rfl | (constructor <;> with_reducible rfl))))
              (try simp only [Act.put, nA, nB, nC])
              refine wpList_val (v := ?_) (by rfl) ?_ ?_
              rotate_left
              · (go_simp; (try (first | with_reducible rfl | (constructor <;> with_reducible rfl))))
              (try simp only [Act.put, nA, nB, nC])
              refine wpList_val (v := ?_) (by rfl) ?_ ?_
              rotate_left
              · (go_simp; (try (first | with_reducible rfl | (constructor <;> with_reducible rfl))))
              (try simp only [Act.put, nA, nB, nC])
              refine wpList_val (v := ?_) (by rfl) ?_ ?_
              rotate_left
              · (go_simp; (try (first | with_reducible rfl | (constructor <;> with_reducible rfl))))
              (try simp only [Act.put, nA, nB, nC])
              refine wpList_val (v := ?_) (by rfl) ?_ ?_
              rotate_left
              · (go_simp; (try (first | with_reducible rfl | (constructor <;> with_reducible rfl))))
              (try simp only [Act.put, nA, nB, nC])
              refine wpList_val (v := ?_) (by rfl) ?_ ?_
              rotate_left
              · (go_simp; (try (first | with_reducible rfl | (constructor <;> with_reducible rfl))))
              (try simp only [Act.put, nA, nB, nC])
              refine wpList_val (v := ?_) (by rfl) ?_ ?_
              rotate_left
              · (go_simp; (try (first | with_reducible rfl | (constructor <;> with_reducible rfl))))
              (try simp only [Act.put, nA, nB, nC])
              refine wpList_val (v := ?_) (by rfl) ?_ ?_
              rotate_left
              · (go_simp; (try (first | with_reducible rfl | (constructor <;> with_reducible rfl))))
              (try simp only [Act.put, nA, nB, nC])
              refine wpList_val (v := ?_) (by rfl) ?_ ?_
              rotate_left
              · (go_simp; (try (first | with_reducible rfl | (constructor <;> with_reducible rfl))))
              (try simp only [Act.put, nA, nB, nC])
              refine wpList_val (v := ?_) (by rfl) ?_ ?_
              rotate_left
              · (go_simp; (try (first | with_reducible rfl | (constructor <;> with_reducible rfl))))
              (try simp only [Act.put, nA, nB, nC])
              refine wpList_val (v := ?_) (by rfl) ?_ ?_
              rotate_left
              · (go_simp; (try (first | with_reducible rfl | (constructor <;> with_reducible rfl))))
              (try simp only [Act.put, nA, nB, nC])
              refine wpList_val (v := ?_) (by rfl) ?_ ?_
              rotate_left
              · (go_simp; (try (first | with_reducible rfl | (constructor <;> with_reducible rfl))))
              (try simp only [Act.put, nA, nB, nC])
              refine wpList_val (v := ?_) (by rfl) ?_ ?_
              rotate_left
              · (go_simp; (try (first | with_reducible rfl | (constructor <;> with_reducible rfl))))
              (try simp only [Act.put, nA, nB, nC])
              refine wpList_val (v := ?_) (by rfl) ?_ ?_
              rotate_left
              · (go_simp; (try (first | with_reducible rfl | (constructor <;> with_reducible rfl))))
              (try simp only [Act.put, nA, nB, nC])
              refine wpList_val (v := ?_) (by rfl) ?_ ?_
              rotate_left
              · (go_simp; (try (first | with_reducible rfl | (constructor <;> with_reducible rfl))))
              (try simp only [Act.put, nA, nB, nC])
              refine wpList_val (v := ?_) (by rfl) ?_ ?_
              rotate_left
              · (go_simp; (try (first | with_reducible rfl | (constructor <;> with_reducible rfl))))
              (try simp only [Act.put, nA, nB, nC])
              refine wpList_val (v := ?_) (by rfl) ?_ ?_
              rotate_left
              · (go_simp; (try (first | with_reducible rfl | (constructor <;> with_reducible rfl))))
              (try simp only [Act.put, nA, nB, nC])
              refine wpList_val (v := ?_) (by rfl) ?_ ?_
              rotate_left
              · (go_simp; (try (first | with_reducible rfl | (constructor <;> with_reducible rfl))))
              (try simp only [Act.put, nA, nB, nC])
              refine wpList_val (v := ?_) (by rfl) ?_ ?_
              rotate_left
              · (go_simp; (try (first | with_reducible rfl | (constructor <;> with_reducible rfl))))
              (try simp only [Act.put, nA, nB, nC])
              refine wpList_val (v := ?_) (by rfl) ?_ ?_
              rotate_left
              · (go_simp; (try (first | with_reducible rfl | (constructor <;> with_reducible rfl))))
              (try simp only [Act.put, nA, nB, nC])
              refine wpList_val (v := ?_) (by rfl) ?_ ?_
              rotate_left
              · (go_simp; (try (first | with_reducible rfl | (constructor <;> with_reducible rfl))))
              (try simp only [Act.put, nA, nB, nC])
              refine wpList_skip (by have h := HC.out; subst h; rfl) ?_
              (try simp only [Act.put, nA, nB, nC])
              refine wpList_skip (by have h := HC.out; subst h; rfl) ?_
              (try simp only [Act.put, nA, nB, nC])
              refine wpList_skip (by have h := HC.out; subst h; rfl) ?_
              (try simp only [Act.put, nA, nB, nC])
              refine wpList_skip (by have h := HC.out; subst h; rfl) ?_
              (try simp only [Act.put, nA, nB, nC])
              refine wpList_skip (by have h := HC.out; subst h; rfl) ?_
              (try simp only [Act.put, nA, nB, nC])
              refine wpList_val (v := .bool c) (by rfl) ?_ ?_
              · (have h := HC.out; subst h; go_simp; (try (first | with_reducible rfl | (constructor <;> with_reducible rfl))))
              (try simp only [Act.put, nA, nB, nC])
              refine wpList_val (v := ?_) (by rfl) ?_ ?_
              rotate_left
              · (go_simp; (try (first | with_reducible rfl | (constructor <;> with_reducible rfl))))
              (try simp only [Act.put, nA, nB, nC])
              refine wpList_skip (by have h := HC.out; subst h; rfl) ?_
              (try simp only [Act.put, nA, nB, nC])
              refine wpList_skip (by have h := HC.out; subst h; rfl) ?_
              (try simp only [Act.put, nA, nB, nC])
              refine wpList_skip (by have h := HC.out; subst h; rfl) ?_
              (try simp only [Act.put, nA, nB, nC])
              refine wpList_skip (by have h := HC.out; subst h; rfl) ?_
              (try simp only [Act.put, nA, nB, nC])
              refine wpList_skip (by have h := HC.out; subst h; rfl) ?_
              (try simp only [Act.put, nA, nB, nC])
              refine wpList_val (v := .bool c) (by rfl) ?_ ?_
              · (have h := HC.out; subst h; go_simp; (try (first | with_reducible rfl | (constructor <;> with_reducible rfl))))
              (try simp only [Act.put, nA, nB, nC])
              refine wpList_nil ?_
              have h := HC.out
              subst h
              go_wp2_with fail
              go_ret
              exact ⟨rfl, G3.out.below⟩
            have e5 : decide (d1' < -274877906944) = false := by simpa using h5
            by_cases h6 : 4503599627370496 < d2'
            · obtain ⟨c, hc⟩ : ∃ c, decide (4503599627370496 < d2') = c := ⟨_, rfl⟩
              have HC := Lib.hid (show c = true by rw [← hc]; simpa using h6)
              clear h6 HO
              refine wp_region_lit ?_
              refine wpList_val (v := ?_) (by rfl) ?_ ?_
              rotate_left
              · (go_simp; (try (first | with_reducible rfl | (constructor <;> with_reducible rfl))))
              (try simp only [Act.put, nA, nB, nC])
              refine wpList_val (v := ?_) (by rfl) ?_ ?_
              rotate_left
              · (go_simp; (try (first | with_reducible rfl | (constructor <;> with_reducible rfl))))
              (try simp only [Act.put, nA, nB, nC])
              refine wpList_val (v := ?_) (by rfl) ?_ ?_
              rotate_left
              · (go_simp; (try (first | with_reducible rfl | (constructor <;> with_reducible rfl))))
              (try simp only [Act.put, nA, nB, nC])
              refine wpList_val (v := ?_) (by rfl) ?_ ?_
              rotate_left
              · (go_simp; (try (first | with_reducible rfl | (constructor <;> with_reducible rfl))))
              (try simp only [Act.put, nA, nB, nC])
              refine wpList_val (v := ?_) (by rfl) ?_ ?_
              rotate_left
              · (go_simp; (try (first | with_reducible rfl | (constructor <;> with_reducible rfl))))
              (try simp only [Act.put, nA, nB, nC])
              refine wpList_val (v := ?_) (by rfl) ?_ ?_
              rotate_left
              · (go_simp; (try (first | with_reducible rfl | (constructor <;> with_reducible rfl))))
              (try simp only [Act.put, nA, nB, nC])
              refine wpList_val (v := ?_) (by rfl) ?_ ?_
              rotate_left
              · (go_simp; (try (first | with_reducible rfl | (constructor <;> with_reducible rfl))))
              (try simp only [Act.put, nA, nB, nC])
              refine wpList_val (v := ?_) (by rfl) ?_ ?_
              rotate_left
              · (go_simp; (try (first | with_reducible rfl | (constructor <;> with_reducible rfl))))
              (try simp only [Act.put, nA, nB, nC])
              refine wpList_val (v := ?_) (by rfl) ?_ ?_
              rotate_left
              · (go_simp; (try (first | with_reducible rfl | (constructor <;> with_reducible rfl))))
              (try simp only [Act.put, nA, nB, nC])
              refine wpList_val (v := ?_) (by rfl) ?_ ?_
              rotate_left
              · (go_simp; (try (first | with_reducible rfl | (constructor <;> with_reducible rfl))))
              (try simp only [Act.put, nA, nB, nC])
              refine wpList_val (v := ?_) (by rfl) ?_ ?_
              rotate_left
              · (go_simp; (try (first | with_reducible rfl | (constructor <;> with_reducible rfl))))
              (try simp only [Act.put, nA, nB, nC])
              refine wpList_val (v := ?_) (by rfl) ?_ ?_
              rotate_left
              · (go_simp; (try (first | with_reducible rfl | (constructor <;> with_reducible rfl))))
              (try simp only [Act.put, nA, nB, nC])
              refine wpList_val (v := ?_) (by rfl) ?_ ?_
              rotate_left
              · (go_simp; (try (first | with_reducible rfl | (constructor <;> with_reducible rfl))))
              (try simp only [Act.put, nA, nB, nC])
              refine wpList_val (v := ?_) (by rfl) ?_ ?_
              rotate_left
              · (go_simp; (try (first | with_reducible rfl | (constructor <;> with_reducible rfl))))
              (try simp only [Act.put, nA, nB, nC])
              refine wpList_val (v := ?_) (by rfl) ?_ ?_
              rotate_left
              · (go_simp; (try (first | with_reducible rfl | (constructor <;> with_reducible rfl))))
              (try simp only [Act.put, nA, nB, nC])
              refine wpList_val (v := ?_) (by rfl) ?_ ?_
              rotate_left
              · (go_simp; (try (first | with_reducible rfl | (constructor <;> with_reducible rfl))))
              (try simp only [Act.put, nA, nB, nC])
              refine wpList_val (v := ?_) (by rfl) ?_ ?_
              rotate_left
              · (go_simp; (try (first | with_reducible rfl | (constructor <;> with_reducible rfl))))
              (try simp only [Act.put, nA, nB, nC])
              refine wpList_val (v := ?_) (by rfl) ?_ ?_
              rotate_left
              · (go_simp; (try (first | with_reducible rfl | (constructor <;> with_reducible rfl))))
              (try simp only [Act.put, nA, nB, nC])
              refine wpList_val (v := ?_) (by rfl) ?_ ?_
              rotate_left
              · (go_simp; (try (first | with_reducible rfl | (constructor <;> with_reducible rfl))))
              (try simp only [Act.put, nA, nB, nC])
              refine wpList_val (v := ?_) (by rfl) ?_ ?_
              rotate_left
              · (go_simp; (try (first | with_reducible rfl | (constructor <;> with_reducible rfl))))
              (try simp only [Act.put, nA, nB, nC])
              refine wpList_val (v := ?_) (by rfl) ?_ ?_
              rotate_left
              · (go_simp; (try (first | with_reducible rfl | (constructor <;> with_reducible rfl))))
              (try simp only [Act.put, nA, nB, nC])
              refine wpList_val (v := ?_) (by rfl) ?_ ?_
              rotate_left
              · (go_simp; (try (first | with_reducible rfl | (constructor <;> with_reducible rfl))))
              (try simp only [Act.put, nA, nB, nC])
              refine wpList_val (v := ?_) (by rfl) ?_ ?_
              rotate_left
              · (go_simp; (try (first | with_reducible rfl | (constructor <;> with_reducible rfl))))
              (try simp only [Act.put, nA, nB, nC])
              refine wpList_val (v := ?_) (by rfl) ?_ ?_
              rotate_left
              · (go_simp; (try (first | with_reducible rfl | (constructor <;> with_reducible rfl))))
              (try simp only [Act.put, nA, nB, nC])
              refine wpList_val (v := ?_) (by rfl) ?_ ?_
              rotate_left
              · (go_simp; (try (first | with_reducible rfl | (constructor <;> with_reducible rfl))))
              (try simp only [Act.put, nA, nB, nC])
              refine wpList_val (v := ?_) (by rfl) ?_ ?_
              rotate_left
              · (go_simp; (try (first | with_reducible rfl | (constructor <;> with_reducible rfl))))
              (try simp only [Act.put, nA, nB, nC])
              refine wpList_val (v := ?_) (by rfl) ?_ ?_
              rotate_left
              · (go_simp; (try (first | with_reducible rfl | (constructor <;> with_reducible rfl))))
              (try simp only [Act.put, nA, nB, nC])
              refine wpList_val (v := ?_) (by rfl) ?_ ?_
              rotate_left
              · (go_simp; (try (first | with_reducible rfl | (constructor <;> with_reducible rfl))))
              (try simp only [Act.put, nA, nB, nC])
              refine wpList_val (v := ?_) (by rfl) ?_ ?_
              rotate_left
              · (go_simp; (try (first | with_reducible rfl | (constructor <;> with_reducible rfl))))
              (try simp only [Act.put, nA, nB, nC])
              refine wpList_val (v := ?_) (by rfl) ?_ ?_
              rotate_left
              · (go_simp; (try (first | with_reducible rfl | (constructor <;> with_reducible rfl))))
              (try simp only [Act.put, nA, nB, nC])
              refine wpList_val (v := ?_) (by rfl) ?_ ?_
              rotate_left
              · (go_simp; (try (first | with_reducible rfl | (constructor <;> with_reducible rfl))))
              (try simp only [Act.put, nA, nB, nC])
              refine wpList_val (v := ?_) (by rfl) ?_ ?_
              rotate_left
              · (go_simp; (try (first | with_reducible rfl | (constructor <;> with_reducible rfl))))
              (try simp only [Act.put, nA, nB, nC])
              refine wpList_val (v := ?_) (by rfl) ?_ ?_
              rotate_left
              · (go_simp; (try (first | with_reducible rfl | (constructor <;> with_reducible rfl))))
              (try simp only [Act.put, nA, nB, nC])
              refine wpList_val (v := ?_) (by rfl) ?_ ?_
              rotate_left
              · (go_simp; (try (first | with_reducible rfl | (constructor <;> with_reducible rfl))))
              (try simp only [Act.put, nA, nB, nC])
              refine wpList_val (v := ?_) (by rfl) ?_ ?_
              rotate_left
              · (go_simp; (try (first | with_reducible rfl | (constructor <;> with_reducible rfl))))
              (try simp only [Act.put, nA, nB, nC])
              refine wpList_val (v := ?_) (by rfl) ?_ ?_
              rotate_left
              · (go_simp; (try (first | with_reducible rfl | (constructor <;> with_reducible rfl))))
              (try simp only [Act.put, nA, nB, nC])
              refine wpList_val (v := ?_) (by rfl) ?_ ?_
              rotate_left
              · (go_simp; (try (first | with_reducible rfl | (constructor <;> with_reducible rfl))))
              (try simp only [Act.put, nA, nB, nC])
              refine wpList_val (v := ?_) (by rfl) ?_ ?_
              rotate_left
              · (go_simp; (try (first | with_reducible rfl | (constructor <;> with_reducible rfl))))
              (try simp only [Act.put, nA, nB, nC])
              refine wpList_val (v := ?_) (by rfl) ?_ ?_
              rotate_left
              · (go_simp; (try (first | with_reducible rfl | (constructor <;> with_reducible rfl))))
              (try simp only [Act.put, nA, nB, nC])
              refine wpList_val (v := ?_) (by rfl) ?_ ?_
              rotate_left
              · (go_simp; (try (first | with_reducible rfl | (constructor <;> with_reducible rfl))))
              (try simp only [Act.put, nA, nB, nC])
              refine wpList_val (v := ?_) (by rfl) ?_ ?_
              rotate_left
              · (go_simp; (try (first | with_reducible rfl | (constructor <;> with_reducible rfl))))
              (try simp only [Act.put, nA, nB, nC])
              refine wpList_val (v := ?_) (by rfl) ?_ ?_
              rotate_left
              · (go_simp; (try (first | with_reducible rfl | (constructor <;> with_reducible rfl))))
              (try simp only [Act.put, nA, nB, nC])
              refine wpList_val (v := ?_) (by rfl) ?_ ?_
              rotate_left
              · (go_simp; (try (first | with_reducible rfl | (constructor <;> with_reducible rfl))))
              (try simp only [Act.put, nA, nB, nC])
              refine wpList_val (v := ?_) (by rfl) ?_ ?_
              rotate_left
              · (go_simp; (try (first | with_reducible rfl | (constructor <;> with_reducible rfl))))
              (try simp only [Act.put, nA, nB, nC])
              refine wpList_val (v := ?_) (by rfl) ?_ ?_
              rotate_left
              · (go_simp; (try (first | with_reducible rfl | (constructor <;> with_reducible rfl))))
              (try simp only [Act.put, nA, nB, nC])
              refine wpList_val (v := ?_) (by rfl) ?_ ?_
              rotate_left
              · (go_simp; (try (first | with_reducible rfl | (constructor <;> with_reducible rfl))))
              (try simp only [Act.put, nA, nB, nC])
              refine wpList_val (v := ?_) (by rfl) ?_ ?_
              rotate_left
              · (go_simp; (try (first | with_reducible rfl | (constructor <;> with_reducible rfl))))
              (try simp only [Act.put, nA, nB, nC])
              refine wpList_val (v := ?_) (by rfl) ?_ ?_
              rotate_left
              · (go_simp; (try (first | with_reducible rfl | (constructor <;> with_reducible rfl))))
              (try simp only [Act.put, nA, nB, nC])
              refine wpList_val (v := ?_) (by rfl) ?_ ?_
              rotate_left
              · (go_simp; (try (first | with_reducible rfl | (constructor <;> with_reducible rfl))))
              (try simp only [Act.put, nA, nB, nC])
              refine wpList_val (v := ?_) (by rfl) ?_ ?_
              rotate_left
              · (go_simp; (try (first | with_reducible rfl | (constructor <;> with_reducible rfl))))
              (try simp only [Act.put, nA, nB, nC])
              refine wpList_val (v := ?_) (by rfl) ?_ ?_
              rotate_left
              · (go_simp; (try (first | with_reducible rfl | (constructor <;> with_reducible rfl))))
              (try simp only [Act.put, nA, nB, nC])
              refine wpList_val (v := ?_) (by rfl) ?_ ?_
              rotate_left
              · (go_simp; (try (first | with_reducible rfl | (constructor <;> with_reducible rfl))))
              (try simp only [Act.put, nA, nB, nC])
              refine wpList_val (v := ?_) (by rfl) ?_ ?_
              rotate_left
              · (go_simp; (try (first | with_reducible rfl | (constructor <;> with_reducible rfl))))
              (try simp only [Act.put, nA, nB, nC])
              refine wpList_val (v := ?_) (by rfl) ?_ ?_
              rotate_left
              · (go_simp; (try (first | with_reducible rfl | (constructor <;> with_reducible rfl))))
              (try simp only [Act.put, nA, nB, nC])
              refine wpList_val (v := ?_) (by rfl) ?_ ?_
              rotate_left
              · (go_simp; (try (first | with_reducible rfl | (constructor <;> with_reducible rfl))))
              (try simp only [Act.put, nA, nB, nC])
              refine wpList_val (v := ?_) (by rfl) ?_ ?_
              rotate_left
              · (go_simp; (try (first | with_reducible rfl | (constructor <;> with_reducible rfl))))
              (try simp only [Act.put, nA, nB, nC])
              refine wpList_val (v := ?_) (by rfl) ?_ ?_
              rotate_left
              · (go_simp; (try (first | with_reducible rfl | (constructor <;> with_reducible rfl))))
              (try simp only [Act.put, nA, nB, nC])
              refine wpList_val (v := ?_) (by rfl) ?_ ?_
              rotate_left
              · (go_simp; (try (first | with_reducible rfl | (constructor <;> with_reducible rfl))))
              (try simp only [Act.put, nA, nB, nC])
              refine wpList_val (v := ?_) (by rfl) ?_ ?_
              rotate_left
              · (go_simp; (try (first | with_reducible rfl | (constructor <;> with_reducible rfl))))
              (try simp only [Act.put, nA, nB, nC])
              refine wpList_val (v := ?_) (by rfl) ?_ ?_
              rotate_left
              · (go_simp; (try (first | with_reducible rfl | (constructor <;> with_reducible rfl))))
              (try simp only [Act.put, nA, nB, nC])
              refine wpList_skip (by have h := HC.out; subst h; rfl) ?_
              (try simp only [Act.put, nA, nB, nC])
              refine wpList_skip (by have h := HC.out; subst h; rfl) ?_
              (try simp only [Act.put, nA, nB, nC])
              refine wpList_skip (by have h := HC.out; subst h; rfl) ?_
              (try simp only [Act.put, nA, nB, nC])
              refine wpList_skip (by have h := HC.out; subst h; rfl) ?_
              (try simp only [Act.put, nA, nB, nC])
              refine wpList_skip (by have h := HC.out; subst h; rfl) ?_
              (try simp only [Act.put, nA, nB, nC])
              refine wpList_val (v := .bool c) (by rfl) ?_ ?_
              · (have h := HC.out; subst h; go_simp; (try (first | with_reducible rfl | (constructor <;> with_reducible rfl))))
              (try simp only [Act.put, nA, nB, nC])
              refine wpList_nil ?_
              have h := HC.out
              subst h
              go_wp2_with fail
              go_ret
              exact ⟨rfl, G3.out.below⟩
            have e6 : decide (4503599627370496 < d2') = false := by simpa using h6
            by_cases h7 : d2' < -4503599627370496
            · obtain ⟨c, hc⟩ : ∃ c, decide (d2' < -4503599627370496) = c := ⟨_, rfl⟩
              have HC := Lib.hid (show c = true by rw [← hc]; simpa using h7)
              clear h7 HO
              refine wp_region_lit ?_
              refine wpList_val (v := ?_) (by rfl) ?_ ?_
              rotate_left
              · (go_simp; (try (first | with_reducible rfl | (constructor <;> with_reducible rfl))))
              (try simp only [Act.put, nA, nB, nC])
              refine wpList_val (v := ?_) (by rfl) ?_ ?_
              rotate_left
              · (go_simp; (try (first | with_reducible rfl | (constructor <;> with_reducible rfl))))
              (try simp only [Act.put, nA, nB, nC])
              refine wpList_val (v := ?_) (by rfl) ?_ ?_
              rotate_left
              · (go_simp; (try (first | with_reducible rfl | (constructor <;> with_reducible rfl))))
              (try simp only [Act.put, nA, nB, nC])
              refine wpList_val (v := ?_) (by rfl) ?_ ?_
              rotate_left
              · (go_simp; (try (first | with_reducible rfl | (constructor <;> with_reducible rfl))))
              (try simp only [Act.put, nA, nB, nC])
              refine wpList_val (v := ?_) (by rfl) ?_ ?_
              rotate_left
              · (go_simp; (try (first | with_reducible rfl | (constructor <;> with_reducible rfl))))
              (try simp only [Act.put, nA, nB, nC])
              refine wpList_val (v := ?_) (by rfl) ?_ ?_
              rotate_left
              · (go_simp; (try (first | with_reducible rfl | (constructor <;> with_reducible rfl))))
              (try simp only [Act.put, nA, nB, nC])
              refine wpList_val (v := ?_) (by rfl) ?_ ?_
              rotate_left
              · (go_simp; (try (first | with_reducible rfl | (constructor <;> with_reducible rfl))))
              (try simp only [Act.put, nA, nB, nC])
              refine wpList_val (v := ?_) (by rfl) ?_ ?_
              rotate_left
              · (go_simp; (try (first | with_reducible rfl | (constructor <;> with_reducible rfl))))
              (try simp only [Act.put, nA, nB, nC])
              refine wpList_val (v := ?_) (by rfl) ?_ ?_
              rotate_left
              · (go_simp; (try (first | with_reducible rfl | (constructor <;> with_reducible rfl))))
              (try simp only [Act.put, nA, nB, nC])
              refine wpList_val (v := ?_) (by rfl) ?_ ?_
              rotate_left
              · (go_simp; (try (first | with_reducible rfl | (constructor <;> with_reducible rfl))))
              (try simp only [Act.put, nA, nB, nC])
              refine wpList_val (v := ?_) (by rfl) ?_ ?_
              rotate_left
              · (go_simp; (try (first | with_reducible rfl | (constructor <;> with_reducible rfl))))
              (try simp only [Act.put, nA, nB, nC])
              refine wpList_val (v := ?_) (by rfl) ?_ ?_
              rotate_left
              · (go_simp; (try (first | with_reducible rfl | (constructor <;> with_reducible rfl))))
              (try simp only [Act.put, nA, nB, nC])
              refine wpList_val (v := ?_) (by rfl) ?_ ?_
              rotate_left
              · (go_simp; (try (first | with_reducible rfl | (constructor <;> with_reducible rfl))))
              (try simp only [Act.put, nA, nB, nC])
              refine wpList_val (v := ?_) (by rfl) ?_ ?_
              rotate_left
              · (go_simp; (try (first | with_reducible rfl | (constructor <;> with_reducible rfl))))
              (try simp only [Act.put, nA, nB, nC])
              refine wpList_val (v := ?_) (by rfl) ?_ ?_
              rotate_left
              · (go_simp; (try (first | with_reducible rfl | (constructor <;> with_reducible rfl))))
              (try simp only [Act.put, nA, nB, nC])
              refine wpList_val (v := ?_) (by rfl) ?_ ?_
              rotate_left
              · (go_simp; (try (first | with_reducible rfl | (constructor <;> with_reducible rfl))))
              (try simp only [Act.put, nA, nB, nC])
              refine wpList_val (v := ?_) (by rfl) ?_ ?_
              rotate_left
              · (go_simp; (try (first | with_reducible rfl | (constructor <;> with_reducible rfl))))
              (try simp only [Act.put, nA, nB, nC])
              refine wpList_val (v := ?_) (by rfl) ?_ ?_
              rotate_left
              · (go_simp; (try (first | with_reducible rfl | (constructor <;> with_reducible rfl))))
              (try simp only [Act.put, nA, nB, nC])
              refine wpList_val (v := ?_) (by rfl) ?_ ?_
              rotate_left
              · (go_simp; (try (first | with_reducible rfl | (constructor <;> with_reducible rfl))))
              (try simp only [Act.put, nA, nB, nC])
              refine wpList_val (v := ?_) (by rfl) ?_ ?_
              rotate_left
              · (go_simp; (try (first | with_reducible rfl | (constructor <;> with_reducible rfl))))
              (try simp only [Act.put, nA, nB, nC])
              refine wpList_val (v := ?_) (by rfl) ?_ ?_
              rotate_left
              · (go_simp; (try (first | with_reducible rfl | (constructor <;> with_reducible rfl))))
              (try simp only [Act.put, nA, nB, nC])
              refine wpList_val (v := ?_) (by rfl) ?_ ?_
              rotate_left
              · (go_simp; (try (first | with_reducible rfl | (constructor <;> with_reducible rfl))))
              (try simp only [Act.put, nA, nB, nC])
              refine wpList_val (v := ?_) (by rfl) ?_ ?_
              rotate_left
              · (go_simp; (try (first | with_reducible rfl | (constructor <;> with_reducible rfl))))
              (try simp only [Act.put, nA, nB, nC])
              refine wpList_val (v := ?_) (by rfl) ?_ ?_
              rotate_left
              · (go_simp; (try (first | with_reducible rfl | (constructor <;> with_reducible rfl))))
              (try simp only [Act.put, nA, nB, nC])
              refine wpList_val (v := ?_) (by rfl) ?_ ?_
              rotate_left
              · (go_simp; (try (first | with_reducible rfl | (constructor <;> with_reducible rfl))))
              (try simp only [Act.put, nA, nB, nC])
              refine wpList_val (v := ?_) (by rfl) ?_ ?_
              rotate_left
              · (go_simp; (try (first | with_reducible rfl | (constructor <;> with_reducible rfl))))
              (try simp only [Act.put, nA, nB, nC])
              refine wpList_val (v := ?_) (by rfl) ?_ ?_
              rotate_left
              · (go_simp; (try (first | with_reducible rfl | (constructor <;> with_reducible rfl))))
              (try simp only [Act.put, nA, nB, nC])
              refine wpList_val (v := ?_) (by rfl) ?_ ?_
              rotate_left
              · (go_simp; (try (first | with_reducible rfl | (constructor <;> with_reducible rfl))))
              (try simp only [Act.put, nA, nB, nC])
              refine wpList_val (v := ?_) (by rfl) ?_ ?_
              rotate_left
              · (go_simp; (try (first | with_reducible rfl | (constructor <;> with_reducible rfl))))
              (try simp only [Act.put, nA, nB, nC])
              refine wpList_val (v := ?_) (by rfl) ?_ ?_
              rotate_left
              · (go_simp; (try (first | with_reducible rfl | (constructor <;> with_reducible rfl))))
              (try simp only [Act.put, nA, nB, nC])
              refine wpList_val (v := ?_) (by rfl) ?_ ?_
              rotate_left
              · (go_simp; (try (first | with_reducible rfl | (constructor <;> with_reducible rfl))))
              (try simp only [Act.put, nA, nB, nC])
              refine wpList_val (v := ?_) (by rfl) ?_ ?_
              rotate_left
              · (go_simp; (try (first | with_reducible rfl | (constructor <;> with_reducible rfl))))
              (try simp only [Act.put, nA, nB, nC])
              refine wpList_val (v := ?_) (by rfl) ?_ ?_
              rotate_left
              · (go_simp; (try (first | with_reducible rfl | (constructor <;> with_reducible rfl))))
              (try simp only [Act.put, nA, nB, nC])
              refine wpList_val (v := ?_) (by rfl) ?_ ?_
              rotate_left
              · (go_simp; (try (first | with_reducible rfl | (constructor <;> with_reducible rfl))))
              (try simp only [Act.put, nA, nB, nC])
              refine wpList_val (v := ?_) (by rfl) ?_ ?_
              rotate_left
              · (go_simp; (try (first | with_reducible rfl | (constructor <;> with_reducible rfl))))
              (try simp only [Act.put, nA, nB, nC])
              refine wpList_val (v := ?_) (by rfl) ?_ ?_
              rotate_left
              · (go_simp; (try (first | with_reducible rfl | (constructor <;> with_reducible rfl))))
              (try simp only [Act.put, nA, nB, nC])
              refine wpList_val (v := ?_) (by rfl) ?_ ?_
              rotate_left
              · (go_simp; (try (first | with_reducible rfl | (constructor <;> with_reducible rfl))))
              (try simp only [Act.put, nA, nB, nC])
              refine wpList_val (v := ?_) (by rfl) ?_ ?_
              rotate_left
              · (go_simp; (try (first | with_reducible rfl | (constructor <;> with_reducible rfl))))
              (try simp only [Act.put, nA, nB, nC])
              refine wpList_val (v := ?_) (by rfl) ?_ ?_
              rotate_left
              · (go_simp; (try (first | with_reducible rfl | (constructor <;> with_reducible rfl))))
              (try simp only [Act.put, nA, nB, nC])
              refine wpList_val (v := ?_) (by rfl) ?_ ?_
              rotate_left
              · (go_simp; (try (first | with_reducible rfl | (constructor <;> with_reducible rfl))))
              (try simp only [Act.put, nA, nB, nC])
              refine wpList_val (v := ?_) (by rfl) ?_ ?_
              rotate_left
              · (go_simp; (try (first | with_reducible rfl | (constructor <;> with_reducible rfl))))
              (try simp only [Act.put, nA, nB, nC])
              refine wpList_val (v := ?_) (by rfl) ?_ ?_
              rotate_left
              · (go_simp; (try (first | with_reducible rfl | (constructor <;> with_reducible rfl))))
              (try simp only [Act.put, nA, nB, nC])
              refine wpList_val (v := ?_) (by rfl) ?_ ?_
              rotate_left
              · (go_simp; (try (first | with_reducible rfl | (constructor <;> with_reducible rfl))))
              (try simp only [Act.put, nA, nB, nC])
              refine wpList_val (v := ?_) (by rfl) ?_ ?_
              rotate_left
              · (go_simp; (try (first | with_reducible rfl | (constructor <;> with_reducible rfl))))
              (try simp only [Act.put, nA, nB, nC])
              refine wpList_val (v := ?_) (by rfl) ?_ ?_
              rotate_left
              · (go_simp; (try (first | with_reducible rfl | (constructor <;> with_reducible rfl))))
              (try simp only [Act.put, nA, nB, nC])
              refine wpList_val (v := ?_) (by rfl) ?_ ?_
              rotate_left
              · (go_simp; (try (first | with_reducible rfl | (constructor <;> with_reducible rfl))))
              (try simp only [Act.put, nA, nB, nC])
              refine wpList_val (v := ?_) (by rfl) ?_ ?_
              rotate_left
              · (go_simp; (try (first | with_reducible rfl | (constructor <;> with_reducible rfl))))
              (try simp only [Act.put, nA, nB, nC])
              refine wpList_val (v := ?_) (by rfl) ?_ ?_
              rotate_left
              · (go_simp; (try (first | with_reducible rfl | (constructor <;> with_reducible rfl))))
              (try simp only [Act.put, nA, nB, nC])
              refine wpList_val (v := ?_) (by rfl) ?_ ?_
              rotate_left
              · (go_simp; (try (first | with_reducible rfl | (constructor <;> with_reducible rfl))))
              (try simp only [Act.put, nA, nB, nC])
              refine wpList_val (v := ?_) (by rfl) ?_ ?_
              rotate_left
              · (go_simp; (try (first | with_reducible rfl | (constructor <;> with_reducible rfl))))
              (try simp only [Act.put, nA, nB, nC])
              refine wpList_val (v := ?_) (by rfl) ?_ ?_
              rotate_left
              · (go_simp; (try (first | with_reducible rfl | (constructor <;> with_reducible rfl))))
              (try simp only [Act.put, nA, nB, nC])
              refine wpList_val (v := ?_) (by rfl) ?_ ?_
              rotate_left
              · (go_simp; (try (first | with_reducible rfl | (constructor <;> with_reducible rfl))))
              (try simp only [Act.put, nA, nB, nC])
              refine wpList_val (v := ?_) (by rfl) ?_ ?_
              rotate_left
              · (go_simp; (try (first | with_reducible rfl | (constructor <;> with_reducible rfl))))
              (try simp only [Act.put, nA, nB, nC])
              refine wpList_val (v := ?_) (by rfl) ?_ ?_
              rotate_left
              · (go_simp; (try (first | with_reducible rfl | (constructor <;> with_reducible rfl))))
              (try simp only [Act.put, nA, nB, nC])
              refine wpList_val (v := ?_) (by rfl) ?_ ?_
              rotate_left
              · (go_simp; (try (first | with_reducible rfl | (constructor <;> with_reducible rfl))))
              (try simp only [Act.put, nA, nB, nC])
              refine wpList_val (v := ?_) (by rfl) ?_ ?_
              rotate_left
              · (go_simp; (try (first | with_reducible rfl | (constructor <;> with_reducible rfl))))
              (try simp only [Act.put, nA, nB, nC])
              refine wpList_val (v := ?_) (by rfl) ?_ ?_
              rotate_left
              · (go_simp; (try (first | with_reducible rfl | (constructor <;> with_reducible rfl))))
              (try simp only [Act.put, nA, nB, nC])
              refine wpList_val (v := ?_) (by rfl) ?_ ?_
              rotate_left
              · (go_simp; (try (first | with_reducible rfl | (constructor <;> with_reducible rfl))))
              (try simp only [Act.put, nA, nB, nC])
              refine wpList_val (v := ?_) (by rfl) ?_ ?_
              rotate_left
              · (go_simp; (try (first | with_reducible rfl | (constructor <;> with_reducible rfl))))
              (try simp only [Act.put, nA, nB, nC])
              refine wpList_val (v := ?_) (by rfl) ?_ ?_
              rotate_left
              · (go_simp; (try (first | with_reducible rfl | (constructor <;> with_reducible rfl))))
              (try simp only [Act.put, nA, nB, nC])
              refine wpList_val (v := ?_) (by rfl) ?_ ?_
              rotate_left
              · (go_simp; (try (first | with_reducible rfl | (constructor <;> with_reducible rfl))))
              (try simp only [Act.put, nA, nB, nC])
              refine wpList_val (v := ?_) (by rfl) ?_ ?_
              rotate_left
              · (go_simp; (try (first | with_reducible rfl | (constructor <;> with_reducible rfl))))
              (try simp only [Act.put, nA, nB, nC])
              refine wpList_val (v := ?_) (by rfl) ?_ ?_
              rotate_left
              · (go_simp; (try (first | with_reducible rfl | (constructor <;> with_reducible rfl))))
              (try simp only [Act.put, nA, nB, nC])
              refine wpList_val (v := ?_) (by rfl) ?_ ?_
              rotate_left
              · (go_simp; (try (first | with_reducible rfl | (constructor <;> with_reducible rfl))))
              (try simp only [Act.put, nA, nB, nC])
              refine wpList_val (v := ?_) (by rfl) ?_ ?_
              rotate_left
              · (go_simp; (try (first | with_reducible rfl | (constructor <;> with_reducible rfl))))
              (try simp only [Act.put, nA, nB, nC])
              refine wpList_val (v := ?_) (by rfl) ?_ ?_
              rotate_left
              · (go_simp; (try (first | with_reducible rfl | (constructor <;> with_reducible rfl))))
              (try simp only [Act.put, nA, nB, nC])
              refine wpList_nil ?_
              have h := HC.out
              subst h
              go_wp2_with fail
              go_ret
              exact ⟨rfl, G3.out.below⟩
            have e7 : decide (d2' < -4503599627370496) = false := by simpa using h7
            have HJ := Lib.hid (HO.out.2 ⟨⟨by omega, by omega⟩, ⟨by omega, by omega⟩, ⟨by omega, by omega⟩, ⟨by omega, by omega⟩⟩)
            clear h0 h1 h2 h3 h4 h5 h6 h7 HO
            refine wp_region_lit ?_
            refine wpList_val (v := ?_) rfl ?_ ?_
            rotate_left
            · (go_simp; (try (first | with_reducible rfl | (constructor <;> with_reducible rfl))))
            (try simp only [Act.put, nA, nB, nC])
            refine wpList_val (v := ?_) rfl ?_ ?_
            rotate_left
            · (go_simp; (try (first | with_reducible rfl | (constructor <;> with_reducible rfl))))
            (try simp only [Act.put, nA, nB, nC])
            refine wpList_val (v := ?_) rfl ?_ ?_
            rotate_left
            · (go_simp; (try (first | with_reducible rfl | (constructor <;> with_reducible rfl))))
            (try simp only [Act.put, nA, nB, nC])
            refine wpList_val (v := ?_) rfl ?_ ?_
            rotate_left
            · (go_simp; (try (first | with_reducible rfl | (constructor <;> with_reducible rfl))))
            (try simp only [Act.put, nA, nB, nC])
            refine wpList_val (v := ?_) rfl ?_ ?_
            rotate_left
            · (go_simp; (try (first | with_reducible rfl | (constructor <;> with_reducible rfl))))
            (try simp only [Act.put, nA, nB, nC])
            refine wpList_val (v := ?_) rfl ?_ ?_
            rotate_left
            · (go_simp; (try (first | with_reducible rfl | (constructor <;> with_reducible rfl))))
            (try simp only [Act.put, nA, nB, nC])
            refine wpList_val (v := ?_) rfl ?_ ?_
            rotate_left
            · (go_simp; (try (first | with_reducible rfl | (constructor <;> with_reducible rfl))))
            (try simp only [Act.put, nA, nB, nC])
            refine wpList_val (v := ?_) rfl ?_ ?_
            rotate_left
            · (go_simp; (try (first | with_reducible rfl | (constructor <;> with_reducible rfl))))
            (try simp only [Act.put, nA, nB, nC])
            refine wpList_val (v := ?_) rfl ?_ ?_
            rotate_left
            · (go_simp; (try (first | with_reducible rfl | (constructor <;> with_reducible rfl))))
            (try simp only [Act.put, nA, nB, nC])
            first | (refine wpList_val (v := ?_) (by rfl) ?_ ?_; rotate_left; focus ((go_simp; (try (first | with_reducible rfl | (constructor <;> with_reducible rfl)))))) | refine wpList_skip (by rfl) ?_
            (try simp only [Act.put, nA, nB, nC])
            first | (refine wpList_val (v := ?_) (by rfl) ?_ ?_; rotate_left; focus ((go_simp; (try (first | with_reducible rfl | (constructor <;> with_reducible rfl)))))) | refine wpList_skip (by rfl) ?_
            (try simp only [Act.put, nA, nB, nC])
            first | (refine wpList_val (v := ?_) (by rfl) ?_ ?_; rotate_left; focus ((go_simp; (try (first | with_reducible rfl | (constructor <;> with_reducible rfl)))))) | refine wpList_skip (by rfl) ?_
            (try simp only [Act.put, nA, nB, nC])
            first | (refine wpList_val (v := ?_) (by rfl) ?_ ?_; rotate_left; focus ((go_simp; (try (first | with_reducible rfl | (constructor <;> with_reducible rfl)))))) | refine wpList_skip (by rfl) ?_
            (try simp only [Act.put, nA, nB, nC])
            first | (refine wpList_val (v := ?_) (by rfl) ?_ ?_; rotate_left; focus ((go_simp; (try (first | with_reducible rfl | (constructor <;> with_reducible rfl)))))) | refine wpList_skip (by rfl) ?_
            (try simp only [Act.put, nA, nB, nC])
            first | (refine wpList_val (v := ?_) (by rfl) ?_ ?_; rotate_left; focus ((go_simp; (try (first | with_reducible rfl | (constructor <;> with_reducible rfl)))))) | refine wpList_skip (by rfl) ?_
            (try simp only [Act.put, nA, nB, nC])
            first | (refine wpList_val (v := ?_) (by rfl) ?_ ?_; rotate_left; focus ((go_simp; (try (first | with_reducible rfl | (constructor <;> with_reducible rfl)))))) | refine wpList_skip (by rfl) ?_
            (try simp only [Act.put, nA, nB, nC])
            first | (refine wpList_val (v := ?_) (by rfl) ?_ ?_; rotate_left; focus ((go_simp; (try (first | with_reducible rfl | (constructor <;> with_reducible rfl)))))) | refine wpList_skip (by rfl) ?_
            (try simp only [Act.put, nA, nB, nC])
            refine wpList_val (v := ?_) rfl ?_ ?_
            rotate_left
            · (go_simp; (try (first | with_reducible rfl | (constructor <;> with_reducible rfl))))
            (try simp only [Act.put, nA, nB, nC])
            refine wpList_val (v := ?_) rfl ?_ ?_
            rotate_left
            · (go_simp; (try (first | with_reducible rfl | (constructor <;> with_reducible rfl))))
            (try simp only [Act.put, nA, nB, nC])
            first | (refine wpList_val (v := ?_) (by rfl) ?_ ?_; rotate_left; focus ((go_simp; (try (first | with_reducible rfl | (constructor <;> with_reducible rfl)))))) | refine wpList_skip (by rfl) ?_
            (try simp only [Act.put, nA, nB, nC])
            first | (refine wpList_val (v := ?_) (by rfl) ?_ ?_; rotate_left; focus ((go_simp; (try (first | with_reducible rfl | (constructor <;> with_reducible rfl)))))) | refine wpList_skip (by rfl) ?_
            (try simp only [Act.put, nA, nB, nC])
            first | (refine wpList_val (v := ?_) (by rfl) ?_ ?_; rotate_left; focus ((go_simp; (try (first | with_reducible rfl | (constructor <;> with_reducible rfl)))))) | refine wpList_skip (by rfl) ?_
            (try simp only [Act.put, nA, nB, nC])
            first | (refine wpList_val (v := ?_) (by rfl) ?_ ?_; rotate_left; focus ((go_simp; (try (first | with_reducible rfl | (constructor <;> with_reducible rfl)))))) | refine wpList_skip (by rfl) ?_
            (try simp only [Act.put, nA, nB, nC])
            first | (refine wpList_val (v := ?_) (by rfl) ?_ ?_; rotate_left; focus ((go_simp; (try (first | with_reducible rfl | (constructor <;> with_reducible rfl)))))) | refine wpList_skip (by rfl) ?_
            (try simp only [Act.put, nA, nB, nC])
            first | (refine wpList_val (v := ?_) (by rfl) ?_ ?_; rotate_left; focus ((go_simp; (try (first | with_reducible rfl | (constructor <;> with_reducible rfl)))))) | refine wpList_skip (by rfl) ?_
            (try simp only [Act.put, nA, nB, nC])
            first | (refine wpList_val (v := ?_) (by rfl) ?_ ?_; rotate_left; focus ((go_simp; (try (first | with_reducible rfl | (constructor <;> with_reducible rfl)))))) | refine wpList_skip (by rfl) ?_
            (try simp only [Act.put, nA, nB, nC])
            first | (refine wpList_val (v := ?_) (by rfl) ?_ ?_; rotate_left; focus ((go_simp; (try (first | with_reducible rfl | (constructor <;> with_reducible rfl)))))) | refine wpList_skip (by rfl) ?_
            (try simp only [Act.put, nA, nB, nC])
            refine wpList_val (v := ?_) rfl ?_ ?_
            rotate_left
            · (go_simp; (try (first | with_reducible rfl | (constructor <;> with_reducible rfl))))
            (try simp only [Act.put, nA, nB, nC])
            refine wpList_val (v := ?_) rfl ?_ ?_
            rotate_left
            · (go_simp; (try (first | with_reducible rfl | (constructor <;> with_reducible rfl))))
            (try simp only [Act.put, nA, nB, nC])
            first | (refine wpList_val (v := ?_) (by rfl) ?_ ?_; rotate_left; focus ((go_simp; (try (first | with_reducible rfl | (constructor <;> with_reducible rfl)))))) | refine wpList_skip (by rfl) ?_
            (try simp only [Act.put, nA, nB, nC])
            first | (refine wpList_val (v := ?_) (by rfl) ?_ ?_; rotate_left; focus ((go_simp; (try (first | with_reducible rfl | (constructor <;> with_reducible rfl)))))) | refine wpList_skip (by rfl) ?_
            (try simp only [Act.put, nA, nB, nC])
            first | (refine wpList_val (v := ?_) (by rfl) ?_ ?_; rotate_left; focus ((go_simp; (try (first | with_reducible rfl | (constructor <;> with_reducible rfl)))))) | refine wpList_skip (by rfl) ?_
            (try simp only [Act.put, nA, nB, nC])
            first | (refine wpList_val (v := ?_) (by rfl) ?_ ?_; rotate_left; focus ((go_simp; (try (first | with_reducible rfl | (constructor <;> with_reducible rfl)))))) | refine wpList_skip (by rfl) ?_
            (try simp only [Act.put, nA, nB, nC])
            first | (refine wpList_val (v := ?_) (by rfl) ?_ ?_; rotate_left; focus ((go_simp; (try (first | with_reducible rfl | (constructor <;> with_reducible rfl)))))) | refine wpList_skip (by rfl) ?_
            (try simp only [Act.put, nA, nB, nC])
            first | (refine wpList_val (v := ?_) (by rfl) ?_ ?_; rotate_left; focus ((go_simp; (try (first | with_reducible rfl | (constructor <;> with_reducible rfl)))))) | refine wpList_skip (by rfl) ?_
            (try simp only [Act.put, nA, nB, nC])
            first | (refine wpList_val (v := ?_) (by rfl) ?_ ?_; rotate_left; focus ((go_simp; (try (first | with_reducible rfl | (constructor <;> with_reducible rfl)))))) | refine wpList_skip (by rfl) ?_
            (try simp only [Act.put, nA, nB, nC])
            first | (refine wpList_val (v := ?_) (by rfl) ?_ ?_; rotate_left; focus ((go_simp; (try (first | with_reducible rfl | (constructor <;> with_reducible rfl)))))) | refine wpList_skip (by rfl) ?_
            (try simp only [Act.put, nA, nB, nC])
            refine wpList_val (v := ?_) rfl ?_ ?_
            rotate_left
            · (go_simp; (try (first | with_reducible rfl | (constructor <;> with_reducible rfl))))
            (try simp only [Act.put, nA, nB, nC])
            refine wpList_val (v := ?_) rfl ?_ ?_
            rotate_left
            · (go_simp; (try (first | with_reducible rfl | (constructor <;> with_reducible rfl))))
            (try simp only [Act.put, nA, nB, nC])
            first | (refine wpList_val (v := ?_) (by rfl) ?_ ?_; rotate_left; focus ((go_simp; (try (first | with_reducible rfl | (constructor <;> with_reducible rfl)))))) | refine wpList_skip (by rfl) ?_
            (try simp only [Act.put, nA, nB, nC])
            first | (refine wpList_val (v := ?_) (by rfl) ?_ ?_; rotate_left; focus ((go_simp; (try (first | with_reducible rfl | (constructor <;> with_reducible rfl)))))) | refine wpList_skip (by rfl) ?_
            (try simp only [Act.put, nA, nB, nC])
            first | (refine wpList_val (v := ?_) (by rfl) ?_ ?_; rotate_left; focus ((go_simp; (try (first | with_reducible rfl | (constructor <;> with_reducible rfl)))))) | refine wpList_skip (by rfl) ?_
            (try simp only [Act.put, nA, nB, nC])
            first | (refine wpList_val (v := ?_) (by rfl) ?_ ?_; rotate_left; focus ((go_simp; (try (first | with_reducible rfl | (constructor <;> with_reducible rfl)))))) | refine wpList_skip (by rfl) ?_
            (try simp only [Act.put, nA, nB, nC])
            first | (refine wpList_val (v := ?_) (by rfl) ?_ ?_; rotate_left; focus ((go_simp; (try (first | with_reducible rfl | (constructor <;> with_reducible rfl)))))) | refine wpList_skip (by rfl) ?_
            (try simp only [Act.put, nA, nB, nC])
            refine wpList_val (v := ?_) rfl ?_ ?_
            rotate_left
            · (go_simp; (try (first | with_reducible rfl | (constructor <;> with_reducible rfl))))
            (try simp only [Act.put, nA, nB, nC])
            refine wpList_val (v := ?_) rfl ?_ ?_
            rotate_left
            · (go_simp; (try (first | with_reducible rfl | (constructor <;> with_reducible rfl))))
            (try simp only [Act.put, nA, nB, nC])
            first | (refine wpList_val (v := ?_) (by rfl) ?_ ?_; rotate_left; focus ((go_simp; (try (first | with_reducible rfl | (constructor <;> with_reducible rfl)))))) | refine wpList_skip (by rfl) ?_
            (try simp only [Act.put, nA, nB, nC])
            first | (refine wpList_val (v := ?_) (by rfl) ?_ ?_; rotate_left; focus ((go_simp; (try (first | with_reducible rfl | (constructor <;> with_reducible rfl)))))) | refine wpList_skip (by rfl) ?_
            (try simp only [Act.put, nA, nB, nC])
            first | (refine wpList_val (v := ?_) (by rfl) ?_ ?_; rotate_left; focus ((go_simp; (try (first | with_reducible rfl | (constructor <;> with_reducible rfl)))))) | refine wpList_skip (by rfl) ?_
            (try simp only [Act.put, nA, nB, nC])
            first | (refine wpList_val (v := ?_) (by rfl) ?_ ?_; rotate_left; focus ((go_simp; (try (first | with_reducible rfl | (constructor <;> with_reducible rfl)))))) | refine wpList_skip (by rfl) ?_
            (try simp only [Act.put, nA, nB, nC])
            first | (refine wpList_val (v := ?_) (by rfl) ?_ ?_; rotate_left; focus ((go_simp; (try (first | with_reducible rfl | (constructor <;> with_reducible rfl)))))) | refine wpList_skip (by rfl) ?_
            (try simp only [Act.put, nA, nB, nC])
            refine wpList_val (v := ?_) rfl ?_ ?_
            rotate_left
            · (go_simp; (try (first | with_reducible rfl | (constructor <;> with_reducible rfl))))
            (try simp only [Act.put, nA, nB, nC])
            refine wpList_val (v := ?_) rfl ?_ ?_
            rotate_left
            · (go_simp; (try (first | with_reducible rfl | (constructor <;> with_reducible rfl))))
            (try simp only [Act.put, nA, nB, nC])
            first | (refine wpList_val (v := ?_) (by rfl) ?_ ?_; rotate_left; focus ((go_simp; (try (first | with_reducible rfl | (constructor <;> with_reducible rfl)))))) | refine wpList_skip (by rfl) ?_
            (try simp only [Act.put, nA, nB, nC])
            first | (refine wpList_val (v := ?_) (by rfl) ?_ ?_; rotate_left; focus ((go_simp; (try (first | with_reducible rfl | (constructor <;> with_reducible rfl)))))) | refine wpList_skip (by rfl) ?_
            (try simp only [Act.put, nA, nB, nC])
            first | (refine wpList_val (v := ?_) (by rfl) ?_ ?_; rotate_left; focus ((go_simp; (try (first | with_reducible rfl | (constructor <;> with_reducible rfl)))))) | refine wpList_skip (by rfl) ?_
            (try simp only [Act.put, nA, nB, nC])
            first | (refine wpList_val (v := ?_) (by rfl) ?_ ?_; rotate_left; focus ((go_simp; (try (first | with_reducible rfl | (constructor <;> with_reducible rfl)))))) | refine wpList_skip (by rfl) ?_
            (try simp only [Act.put, nA, nB, nC])
            first | (refine wpList_val (v := ?_) (by rfl) ?_ ?_; rotate_left; focus ((go_simp; (try (first | with_reducible rfl | (constructor <;> with_reducible rfl)))))) | refine wpList_skip (by rfl) ?_
            (try simp only [Act.put, nA, nB, nC])
            refine wpList_val (v := ?_) rfl ?_ ?_
            rotate_left
            · (go_simp; (try (first | with_reducible rfl | (constructor <;> with_reducible rfl))))
            (try simp only [Act.put, nA, nB, nC])
            refine wpList_val (v := ?_) rfl ?_ ?_
            rotate_left
            · (go_simp; (try (first | with_reducible rfl | (constructor <;> with_reducible rfl))))
            (try simp only [Act.put, nA, nB, nC])
            first | (refine wpList_val (v := ?_) (by rfl) ?_ ?_; rotate_left; focus ((go_simp; (try (first | with_reducible rfl | (constructor <;> with_reducible rfl)))))) | refine wpList_skip (by rfl) ?_
            (try simp only [Act.put, nA, nB, nC])
            first | (refine wpList_val (v := ?_) (by rfl) ?_ ?_; rotate_left; focus ((go_simp; (try (first | with_reducible rfl | (constructor <;> with_reducible rfl)))))) | refine wpList_skip (by rfl) ?_
            (try simp only [Act.put, nA, nB, nC])
            first | (refine wpList_val (v := ?_) (by rfl) ?_ ?_; rotate_left; focus ((go_simp; (try (first | with_reducible rfl | (constructor <;> with_reducible rfl)))))) | refine wpList_skip (by rfl) ?_
            (try simp only [Act.put, nA, nB, nC])
            first | (refine wpList_val (v := ?_) (by rfl) ?_ ?_; rotate_left; focus ((go_simp; (try (first | with_reducible rfl | (constructor <;> with_reducible rfl)))))) | refine wpList_skip (by rfl) ?_
            (try simp only [Act.put, nA, nB, nC])
            first | (refine wpList_val (v := ?_) (by rfl) ?_ ?_; rotate_left; focus ((go_simp; (try (first | with_reducible rfl | (constructor <;> with_reducible rfl)))))) | refine wpList_skip (by rfl) ?_
            (try simp only [Act.put, nA, nB, nC])
            refine wpList_val (v := ?_) rfl ?_ ?_
            rotate_left
            · (go_simp; (try (first | with_reducible rfl | (constructor <;> with_reducible rfl))))
            (try simp only [Act.put, nA, nB, nC])
            refine wpList_nil ?_
            go_wp2_with fail
            go_roundw
            case rel => exact ⟨j + 1, by omega, by go_num, by first | trivial | rfl, Lib.hid (fun k' hk' => by
              by_cases e : k' < j
              · exact R2.out k' e
              · obtain rfl : k' = j := by omega
                exact HJ.out)⟩
            case measure => simp [intOf]; omega
          · obtain rfl : j = 3 := by omega
            have g1 : decide (((3 : Nat) : Int) < 3) = false := by decide
            go_wp2_with fail
            go_roundw
            case rel => exact ⟨k + 1, by omega, by go_num, by first | trivial | rfl, Lib.hid (fun i' hi' k' hk' => by
              by_cases e : i' < k
              · exact R.out i' e k' hk'
              · obtain rfl : i' = k := by omega
                exact R2.out k' hk')⟩
            case measure => simp [intOf]; omega
      · obtain rfl : k = N := by omega
        have d1 : decide (k < k) = false := by simp
        have d2 : decide ((k : Int) < (k : Int)) = false := by simp
        have HR := Lib.hid (show ∀ i, i < k → arrv 11 (eaL (shF D) L k i) = arrv 11 (wrF D (L i)) ∧ eaH (shF D) (shH D) (L i) = false from fun i hi => by
          obtain ⟨S', t', e⟩ := OK.out.of i hi
          unfold eaL
          rw [if_pos hi, e]
          exact sh_row (fun k' hk' => by rw [← e]; exact R.out i hi k' hk'))
        have HF := Lib.hid (show (false || orB (fun i => eaH (shF D) (shH D) (L i)) k) = false by rw [orB_none (fun i hi => (HR.out i hi).2)]; rfl)
        have S0 := Lib.hid (G3.out.flag OKS.out.1 OKS.out.2.1 OKS.out.2.2.1 OKS.out.2.2.2)
        clear R G3 OKS
        go_upto_region 17 with fail
        clear d1 d2
        generalize wr.alloc (.cells #[.bool false] 29) = W4 at *
        obtain ⟨bc, hbc⟩ : ∃ x, wr.heap.size = x := ⟨_, rfl⟩
        rw [hbc] at S0 ⊢
        clear hbc
        have P1 := S0.out.e0
        refine wp_region_lit ?_
        refine wpList_val (v := ?_) rfl ?_ ?_
        rotate_left
        · (go_simp; (try (first | with_reducible rfl | (constructor <;> with_reducible rfl))))
        (try simp only [Act.put, nA, nB, nC])
        refine wpList_val (v := ?_) rfl ?_ ?_
        rotate_left
        · (go_simp; (try (first | with_reducible rfl | (constructor <;> with_reducible rfl))))
        (try simp only [Act.put, nA, nB, nC])
        refine wpList_val (v := ?_) rfl ?_ ?_
        rotate_left
        · (refine Eq.trans (run_load_row 45 (.tmp 7) (by rfl) (w.heap.size + 1) (by rfl) _ _ _ _ P1 Try.underlying45 rfl (dlo2.trans (by rw [arrv_size]))) ?_; with_reducible rfl)
        (try simp only [Act.put, nA, nB, nC])
        refine wpList_plain rfl (fun Kn hKn => wp_bsld1 (.tmp 109) (by rfl) (by rfl) (hKn _ _ ?_)); clear hKn Kn; have S1 := Lib.hid (S0.out.lay 45 10 D); clear S0 P1
        refine wpList_step (fun K hK => ?_)
        go_simp
        (refine (shift_one ⟨bc, 0, none⟩ false pb z 1 k L v D W4.heap.size 1 _ S1.out.fc S1.out.ff S1.out.pd S1.out.ne S1.out.nv (by omega) HD1.out S1.out.e0).mono ?_); rintro e w5 ⟨rfl, hr⟩; (rw [HF.out] at hr); have S2 := Lib.hid ((S1.out.ear hr).sub (E' := [⟨w.heap.size + 1, 45, 10, D⟩]) (S' := [⟨gl, k, L⟩]) (by simp) (by simp)); clear hr S1 HF
        (try dsimp only)
        (try simp only [Act.put, nA, nB, nC])
        refine hK _ _ ?_
        clear hK K
        refine wpList_nil ?_
        obtain ⟨L2, hL2⟩ : ∃ x, eaL (shF D) L k = x := ⟨_, rfl⟩
        rw [hL2] at S2 HR
        clear hL2
        go_upto_region 18 with fail
        refine wp_region_lit ?_
        refine wpList_val (v := ?_) rfl ?_ ?_
        rotate_left
        · (go_simp; (try (first | with_reducible rfl | (constructor <;> with_reducible rfl))))
        (try simp only [Act.put, nA, nB, nC])
        refine wpList_step (fun K hK => ?_)
        go_simp
        (refine (all_out pb z 1 k L2 v _ S2.out.pd (by omega)).mono ?_); rintro e w6 ⟨vb, rfl, hb, ho, gb, hv, hg⟩; obtain ⟨cb, rfl, hcb, hS⟩ := S2.out.all hb ho hv hg; have S3 := Lib.hid hS; clear hb ho hv hg hS S2
        (try dsimp only)
        (try simp only [Act.put, nA, nB, nC])
        refine hK _ _ ?_
        clear hK K
        refine wpList_val (v := ?_) rfl ?_ ?_
        rotate_left
        · (go_simp; (try (first | with_reducible rfl | (constructor <;> with_reducible rfl))))
        (try simp only [Act.put, nA, nB, nC])
        refine wpList_nil ?_
        have fcc := S3.out.fc
        go_upto_region 22 with fail
        clear fcc
        go_loopw [15] (fun i wr => ∃ (j : Nat) (h : Bool), j ≤ k ∧ i = .int .i64 j ∧ Hid (FiR bc h pb z 1 v k L2 [⟨w.heap.size + 1, 45, 10, D⟩] [⟨gb, k, L2⟩, ⟨gl, k, L⟩] w wr)) (fun i _ => k - (intOf i).toNat)
        case atStart => exact ⟨0, false, Nat.zero_le _, by go_num, S3⟩
        case round =>
          obtain ⟨j, h, hj, rfl, R⟩ := hrel
          clear S3
          have j0 : (0 : Int) ≤ (j : Int) := Int.natCast_nonneg _
          by_cases hlt : j < k
          · have d1 : decide (j < k) = true := by simpa using hlt
            have d2 : decide ((j : Int) < (k : Int)) = true := by simpa using hlt
            have j1 : (j : Int) < (k : Int) := by omega
            have HW := Lib.hid (HR.out j hlt).1
            have CO := Lib.hid (fun i (hi : i < 11) => R.out.s1 hlt hi)
            have HQ := Lib.hid (show wrF D (L j) = putF (putF (L j) 5 3 (vaV (v2L (fun i => L j (5 + i)) (fun i => D (4 + i))) 2)) 8 3 (vaV (v2L (fun i => putF (L j) 5 3 (vaV (v2L (fun i => L j (5 + i)) (fun i => D (4 + i))) 2) (8 + i)) (fun i => D (7 + i))) 2) from rfl)
            obtain ⟨O, hO⟩ : ∃ x, L j = x := ⟨_, rfl⟩
            rw [hO] at HW CO HQ
            clear hO
            have NN := Lib.hid (R.out.putO O)
            have HN := Lib.hid (show (∀ e, e ∈ [(⟨w.heap.size + 1, 45, 10, D⟩ : Lx)] → e.b ≠ wr.heap.size) ∧ (∀ e, e ∈ [(⟨gb, k, L2⟩ : Sx), ⟨gl, k, L⟩] → e.b ≠ wr.heap.size) from ⟨fun e he => by have := (R.out.ex e he).1.lt; omega, fun e he => by have := (R.out.sx e he).1.1; omega⟩)
            go_upto_region 24 with fail
            refine wp_region_lit ?_
            refine wpList_val (v := ?_) rfl ?_ ?_
            rotate_left
            · (go_simp; (try (first | with_reducible rfl | (constructor <;> with_reducible rfl))))
            (try simp only [Act.put, nA, nB, nC])
            refine wpList_val (v := ?_) rfl ?_ ?_
            rotate_left
            · (go_simp; (try (first | with_reducible rfl | (constructor <;> with_reducible rfl))))
            (try simp only [Act.put, nA, nB, nC])
            refine wpList_val (v := ?_) rfl ?_ ?_
            rotate_left
            · (go_simp; (try (first | with_reducible rfl | (constructor <;> with_reducible rfl))))
            (try simp only [Act.put, nA, nB, nC])
            refine wpList_val (v := ?_) rfl ?_ ?_
            rotate_left
            · (refine Eq.trans (run_load_out (.tmp 133) (by rfl) gl (j * 11) (by rfl) O CO.out) ?_; with_reducible rfl)
            (try simp only [Act.put, nA, nB, nC])
            refine wpList_act (v := ?_) (w' := ?_) rfl ?_ ?_
            rotate_left 2
            · (go_simp; (try (first | with_reducible rfl | (constructor <;> with_reducible rfl))))
            (try simp only [Act.put, nA, nB, nC])
            refine wpList_done (w' := ?_) rfl ?_ ?_
            rotate_left
            · (refine Eq.trans (run_store_row 49 (.tmp 16) (.tmp 134) (by rfl) (wr.heap.size) (by rfl) (by rfl) NN.out.1 (iou.trans rfl)) ?_; with_reducible rfl)
            (try simp only [Act.put, nA, nB, nC])
            refine wpList_nil ?_
            have RA := Lib.hid NN.out.2
            generalize (wr.alloc (.cells #[.int .i64 0, .int .i64 0, .int .i64 0, .int .i64 0, .int .i64 0, .int .i64 0, .int .i64 0, .int .i64 0, .int .i64 0, .int .i64 0, .int .i64 0] 49)).setRow wr.heap.size (arrv 11 O) = W6 at *
            obtain ⟨b16, hb16⟩ : ∃ x, wr.heap.size = x := ⟨_, rfl⟩
            rw [hb16] at RA HN ⊢
            clear hb16 NN R CO
            go_upto_region 25 with fail
            have q0 := RA.out.e0
            have q1 := RA.out.e1
            refine wp_region_lit ?_
            refine wpList_val (v := ?_) rfl ?_ ?_
            rotate_left
            · (go_simp; (try (first | with_reducible rfl | (constructor <;> with_reducible rfl))))
            (try simp only [Act.put, nA, nB, nC])
            refine wpList_val (v := ?_) rfl ?_ ?_
            rotate_left
            · (go_simp; (try (first | with_reducible rfl | (constructor <;> with_reducible rfl))))
            (try simp only [Act.put, nA, nB, nC])
            refine wpList_val (v := ?_) rfl ?_ ?_
            rotate_left
            · (refine Eq.trans (run_load_sub 43 (.tmp 136) (by rfl) b16 5 3 (by rfl) q0 (by decide) _ Try.underlying43 rfl iv3) ?_; with_reducible rfl)
            (try simp only [Act.put, nA, nB, nC])
            refine wpList_val (v := ?_) rfl ?_ ?_
            rotate_left
            · (go_simp; (try (first | with_reducible rfl | (constructor <;> with_reducible rfl))))
            (try simp only [Act.put, nA, nB, nC])
            refine wpList_val (v := ?_) rfl ?_ ?_
            rotate_left
            · (refine Eq.trans (run_load_sub 43 (.tmp 138) (by rfl) (w.heap.size + 1) 4 3 (by rfl) q1 (by decide) _ Try.underlying43 rfl iv3) ?_; with_reducible rfl)
            (try simp only [Act.put, nA, nB, nC])
            refine wpList_plain rfl (fun Kn hKn => wp_bslv2 (.tmp 137) (.tmp 139) (by rfl) (by rfl) (by rfl) (hKn _ _ ?_)); clear hKn Kn; have TRA := Lib.hid (fi_sl2 RA.out (v2L (fun i => O (5 + i)) (fun i => D (4 + i))) _ rfl); clear RA q0 q1
            refine wpList_step (fun K hK => ?_)
            go_simp
            (refine (vadd_any ⟨bc, 0, none⟩ _ _ 0 2 2 (v2L (fun i => O (5 + i)) (fun i => D (4 + i))) _ TRA.out.1.fc TRA.out.1.ff (by decide) (by decide) TRA.out.2).mono ?_); rintro e wv25 ⟨rfl, hu⟩; have URA := Lib.hid (TRA.out.1.upd hu); clear hu TRA; have q0 := URA.out.e0
            (try dsimp only)
            (try simp only [Act.put, nA, nB, nC])
            refine hK _ _ ?_
            clear hK K
            refine wpList_val (v := ?_) rfl ?_ ?_
            rotate_left
            · (go_simp; (try (first | with_reducible rfl | (constructor <;> with_reducible rfl))))
            (try simp only [Act.put, nA, nB, nC])
            refine wpList_done (w' := ?_) rfl ?_ ?_
            rotate_left
            · (refine Eq.trans (run_store_sub 43 (.tmp 142) (.tmp 141) (by rfl) b16 5 (by rfl) (by rfl) q0 (by decide) iv3) ?_; with_reducible rfl)
            (try simp only [Act.put, nA, nB, nC])
            refine wpList_nil ?_
            have RB := Lib.hid (URA.out.rowH HN.out.1 HN.out.2 (putF O 5 3 (vaV (v2L (fun i => O (5 + i)) (fun i => D (4 + i))) 2)))
            clear URA q0
            generalize wv25.setRow b16 (arrv 11 (putF O 5 3 (vaV (v2L (fun i => O (5 + i)) (fun i => D (4 + i))) 2))) = WV25 at *
            obtain ⟨O1, hO1⟩ : ∃ x, putF O 5 3 (vaV (v2L (fun i => O (5 + i)) (fun i => D (4 + i))) 2) = x := ⟨_, rfl⟩
            rw [hO1] at RB
            have EO1 := Lib.hid hO1
            clear hO1
            rw [EO1.out] at HQ
            go_upto_region 26 with fail
            have q0 := RB.out.e0
            have q1 := RB.out.e1
            refine wp_region_lit ?_
            refine wpList_val (v := ?_) rfl ?_ ?_
            rotate_left
            · (go_simp; (try (first | with_reducible rfl | (constructor <;> with_reducible rfl))))
            (try simp only [Act.put, nA, nB, nC])
            refine wpList_val (v := ?_) rfl ?_ ?_
            rotate_left
            · (go_simp; (try (first | with_reducible rfl | (constructor <;> with_reducible rfl))))
            (try simp only [Act.put, nA, nB, nC])
            refine wpList_val (v := ?_) rfl ?_ ?_
            rotate_left
            · (refine Eq.trans (run_load_sub 43 (.tmp 144) (by rfl) b16 8 3 (by rfl) q0 (by decide) _ Try.underlying43 rfl iv3) ?_; with_reducible rfl)
            (try simp only [Act.put, nA, nB, nC])
            refine wpList_val (v := ?_) rfl ?_ ?_
            rotate_left
            · (go_simp; (try (first | with_reducible rfl | (constructor <;> with_reducible rfl))))
            (try simp only [Act.put, nA, nB, nC])
            refine wpList_val (v := ?_) rfl ?_ ?_
            rotate_left
            · (refine Eq.trans (run_load_sub 43 (.tmp 146) (by rfl) (w.heap.size + 1) 7 3 (by rfl) q1 (by decide) _ Try.underlying43 rfl iv3) ?_; with_reducible rfl)
            (try simp only [Act.put, nA, nB, nC])
            refine wpList_plain rfl (fun Kn hKn => wp_bslv2 (.tmp 145) (.tmp 147) (by rfl) (by rfl) (by rfl) (hKn _ _ ?_)); clear hKn Kn; have TRB := Lib.hid (fi_sl2 RB.out (v2L (fun i => O1 (8 + i)) (fun i => D (7 + i))) _ rfl); clear RB q0 q1
            refine wpList_step (fun K hK => ?_)
            go_simp
            (refine (vadd_any ⟨bc, 0, none⟩ _ _ 0 2 2 (v2L (fun i => O1 (8 + i)) (fun i => D (7 + i))) _ TRB.out.1.fc TRB.out.1.ff (by decide) (by decide) TRB.out.2).mono ?_); rintro e wv26 ⟨rfl, hu⟩; have URB := Lib.hid (TRB.out.1.upd hu); clear hu TRB; have q0 := URB.out.e0
            (try dsimp only)
            (try simp only [Act.put, nA, nB, nC])
            refine hK _ _ ?_
            clear hK K
            refine wpList_val (v := ?_) rfl ?_ ?_
            rotate_left
            · (go_simp; (try (first | with_reducible rfl | (constructor <;> with_reducible rfl))))
            (try simp only [Act.put, nA, nB, nC])
            refine wpList_done (w' := ?_) rfl ?_ ?_
            rotate_left
            · (refine Eq.trans (run_store_sub 43 (.tmp 150) (.tmp 149) (by rfl) b16 8 (by rfl) (by rfl) q0 (by decide) iv3) ?_; with_reducible rfl)
            (try simp only [Act.put, nA, nB, nC])
            refine wpList_nil ?_
            have RC := Lib.hid (URB.out.rowH HN.out.1 HN.out.2 (putF O1 8 3 (vaV (v2L (fun i => O1 (8 + i)) (fun i => D (7 + i))) 2)))
            clear URB q0
            generalize wv26.setRow b16 (arrv 11 (putF O1 8 3 (vaV (v2L (fun i => O1 (8 + i)) (fun i => D (7 + i))) 2))) = WV26 at *
            obtain ⟨O2, hO2⟩ : ∃ x, putF O1 8 3 (vaV (v2L (fun i => O1 (8 + i)) (fun i => D (7 + i))) 2) = x := ⟨_, rfl⟩
            rw [hO2] at RC
            have EO2 := Lib.hid hO2
            clear hO2
            rw [EO2.out] at HQ
            rw [HQ.out] at HW
            go_upto_region 27 with fail
            have HS := Lib.hid RC.out.drew
            clear RC
            (try simp only [Act.put])
            refine wp_region_M (fun w' => (∀ i, i < 11 → w'.cell? ⟨gb, j * 11 + i, none⟩ = some (.int .i64 (L2 j i))) ∧ Blk w' b16 49 11 O2) 5 (by kernel_rfl) ?_ (fun hHeld => ?_)
            · exact ⟨fun i hi => HS.out.s0 hlt hi, HS.out.e0⟩
            refine wpAnyM_takeX [2, 3, 5] 0 (v := ?_) rfl (by kernel_rfl) (fun _ _ _ h => h) (Or.inl ⟨by rfl, ?_⟩) (by assumption) ?_
            rotate_left
            · (intro wx hSw; (try dsimp only at hSw); go_simp; (try with_reducible rfl))
            (try simp only [Act.put, nA, nB, nC])
            refine wpAnyM_takeX [2, 3, 5] 1 (v := ?_) rfl (by kernel_rfl) (fun _ _ _ h => h) (Or.inl ⟨by rfl, ?_⟩) (by assumption) ?_
            rotate_left
            · (intro wx hSw; (try dsimp only at hSw); go_simp; (try with_reducible rfl))
            (try simp only [Act.put, nA, nB, nC])
            refine wpAnyM_takeX [3, 5] 2 (v := ?_) rfl (by kernel_rfl) (fun _ _ _ h => h) (Or.inl ⟨by rfl, ?_⟩) (by assumption) ?_
            rotate_left
            · (intro wx hSw; (try dsimp only at hSw); go_simp; (try with_reducible rfl))
            (try simp only [Act.put, nA, nB, nC])
            refine wpAnyM_take 3 (v := ?_) rfl (by kernel_rfl) (fun _ _ _ h => h) (Or.inl ⟨by rfl, ?_⟩) (by assumption) ?_
            rotate_left
            · (intro wx hSw; refine Eq.trans (run_load_out (.tmp 153) (by rfl) gb (j * 11) (by rfl) (L2 j) hSw.1) ?_; with_reducible rfl)
            (try simp only [Act.put, nA, nB, nC])
            refine wpAnyM_take 4 (v := ?_) rfl (by kernel_rfl) (fun _ _ _ h => h) (Or.inl ⟨by rfl, ?_⟩) (by assumption) ?_
            rotate_left
            · (intro wx hSw; refine Eq.trans (run_load_row 49 (.tmp 16) (by rfl) b16 (by rfl) _ _ _ _ hSw.2 Try.underlying49 rfl (iou.trans (by rw [arrv_size]))) ?_; with_reducible rfl)
            (try simp only [Act.put, nA, nB, nC])
            refine wpAnyM_one 5 rfl (by kernel_rfl) (fun K hK => ?_)
            refine if_pos_of rfl ?_; refine wp_of_valo (run_op_neqOut (.tmp 154) (.tmp 155) rfl rfl rfl HW.out) ?_
            refine hK.out _ _ (.inl (by kernel_rfl)) (fun _ => ?_)
            clear hK K
            (try simp only [Act.put, nA, nB, nC])
            refine wpAnyM_done (by kernel_rfl) ?_ _
            go_wp2_with fail
            go_roundw
            case rel => exact ⟨j + 1, _, by omega, by go_num, Lib.hid (HS.out.sub (by simp) (fun _ h => h))⟩
            case measure => simp [intOf]; omega
          · obtain rfl : j = k := by omega
            have d1 : decide (j < j) = false := by simp
            have d2 : decide ((j : Int) < (j : Int)) = false := by simp
            go_wp2_with fail
            go_ret
            exact ⟨rfl, R.out.below⟩
  · have L1b := L1
    refine wp_region_lit ?_
    refine wpList_val (v := ?_) rfl ?_ ?_
    rotate_left
    · (go_simp; (try (first | with_reducible rfl | (constructor <;> with_reducible rfl))))
    (try simp only [Act.put, nA, nB, nC])
    refine wpList_val (v := ?_) rfl ?_ ?_
    rotate_left
    · refine Eq.trans (run_load_row 32 (.tmp 5) (by rfl) (w.heap.size) (by rfl) _ _ _ _ (P0) Try.underlying32 rfl (ist.trans (by rw [arrv_size]))) ?_; with_reducible rfl
    (try simp only [Act.put, nA, nB, nC])
    refine wpList_val (v := ?_) rfl ?_ ?_
    rotate_left
    · (go_simp; (try (first | with_reducible rfl | (constructor <;> with_reducible rfl))))
    (try simp only [Act.put, nA, nB, nC])
    refine wpList_step (fun K hK => ?_)
    go_simp
    (refine (fill_nil z 1 S q n cp _ hg).mono ?_); rintro e w2 ⟨rfl, hb⟩; have L2 := Lib.hid (L1.out.down hb); clear hb L1 L1b P0
    (try dsimp only)
    (try simp only [Act.put, nA, nB, nC])
    refine hK _ _ ?_
    clear hK K
    refine wpList_val (v := ?_) rfl ?_ ?_
    rotate_left
    · (go_simp; (try (first | with_reducible rfl | (constructor <;> with_reducible rfl))))
    (try simp only [Act.put, nA, nB, nC])
    refine wpList_nil ?_
    clear hg
    go_wp2_with fail
    go_ret
    exact ⟨rfl, L2.out.below⟩
end Go.Proofs.Ytpoiobgpggiebaa
