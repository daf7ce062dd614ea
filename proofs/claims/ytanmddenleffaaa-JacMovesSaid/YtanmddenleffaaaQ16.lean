/- Contracts of the program's functions and plain laws, part 16: they hold for all arguments. -/
import Derived.Test.YtanmddenleffaaaQ15
import Derived.Test.YtanmddenleffaaaQ11
import Derived.Test.YtanmddenleffaaaQ13
/- Contract of jac.Turned. -/
namespace Go.Proofs.Ytanmddenleffaaa
open Go.RowKit
set_option maxRecDepth 100000
theorem it34 : (Try.prog.info? 47).map (·.size) = some 12 := by kernel_rfl
theorem zt34 : (#[.int .i64 0, .int .i64 0, .int .i64 0, .int .i64 0, .int .i64 0, .int .i64 0, .int .i64 0, .int .i64 0, .int .i64 0, .int .i64 0, .int .i64 0, .int .i64 0] : Array Value) = arrv 12 (fun _ => 0) := by kernel_rfl
theorem sneg {x : Int} (h : SB x) : IntKind.i64.wrap (-x) = -x := IntWalk.i64_in _ (by unfold SB at h; omega)
open Go in
/-- q[1:] of a quaternion as a vector, loaded. -/
theorem arr_v (g : Nat) (W : World) : (Instr.arrayAt 41 (.slice (some ⟨g, 1, none⟩) 3 3)).run Try.prog W = .ok (.pointer (some ⟨g, 1, none⟩)) W := by kernel_rfl
/-- The blocks of Turned. -/
structure TuR (c : Addr) (h : Bool) (Q A : Nat → Int) (w wr : World) : Prop where
  upd : Upd c h w wr
  q : Blk wr w.heap.size 40 4 Q
  a : Blk wr (w.heap.size + 1) 41 3 A
  r : Blk wr (w.heap.size + 1 + 1) 47 12 (fun _ => 0)
  cell : wr.cell? c = some (.bool h)
  free : wr.frozen? c = false
  old : c.block < w.heap.size
section
variable {c : Addr} {h h' : Bool} {Q A U F : Nat → Int} {ub ob : Nat} {w wr w' : World}
theorem TuR.upd' (s : TuR c h Q A w wr) (u : Upd c h' wr w') : TuR c h' Q A w w' := by
  have := s.old
  exact ⟨s.upd.trans u, s.q.upd u (by omega), s.a.upd u (by omega), s.r.upd u (by omega), u.cellc s.cell, (u.frozen (World.block_lt_of_cell? _ _ s.cell)).trans s.free, s.old⟩
theorem TuR.low (s : TuR c h Q A w wr) {b : Nat} (hb : w.heap.size + 1 + 1 < b) (u : Below b wr w') : TuR c h Q A w w' := by
  have := s.old
  have k : ∀ j, j < b → w'.heap[j]? = wr.heap[j]? := fun j hj => u.block j hj
  exact ⟨s.upd.then' (u.mono (by omega)), (k _ (by omega)).trans s.q, (k _ (by omega)).trans s.a, (k _ (by omega)).trans s.r, (u.cell (by omega)).trans s.cell, (u.frozen (by omega)).trans s.free, s.old⟩
theorem TuR.down (s : TuR c h Q A w wr) (u : Below wr.heap.size wr w') : TuR c h Q A w w' := s.low s.r.lt u
theorem TuR.setQ (s : TuR c h Q A w wr) (i : Nat) (x : Int) : TuR c h (Go.Proofs.Ytanmddenleffaaa.upd Q i x) A w (wr.setCell ⟨w.heap.size, i, none⟩ (.int .i64 x)) := by
  have := s.old
  have hne : (⟨w.heap.size, i, none⟩ : Addr) ≠ c := fun e => by rw [← e] at this; simp at this
  exact ⟨s.upd.setCell (Nat.le_refl _) _, s.q.set i x, s.a.other (by simp) _, s.r.other (by simp; omega) _, (World.cell?_setCell_other _ _ _ _ hne).trans s.cell, (World.frozen?_setCell ..).trans s.free, s.old⟩
theorem TuR.rowA (s : TuR c h Q A w wr) (G : Nat → Int) : TuR c h Q G w (wr.setRow (w.heap.size + 1) (arrv 3 G)) := by
  have := s.old
  have k := cell_row_other (w := wr) (g := w.heap.size + 1) (arrv 3 G) (p := c) (by omega)
  exact ⟨s.upd.then' (below_row (Below.refl _ _) (by omega) _), s.q.setRow_other _ (by omega), s.a.setRow G, s.r.setRow_other _ (by omega), k.1.trans s.cell, k.2.trans s.free, s.old⟩
theorem TuR.congr (s : TuR c h Q A w wr) {Q' : Nat → Int} (eh : h = h') (e : ∀ i, i < 4 → Q i = Q' i) : TuR c h' Q' A w wr := by subst eh; exact ⟨s.upd, s.q.congr e, s.a, s.r, s.cell, s.free, s.old⟩
theorem tu_start (c : Addr) (h : Bool) (Q A : Nat → Int) (w : World) (hc : w.cell? c = some (.bool h)) (hf : w.frozen? c = false) :
    TuR c h Q A w (((w.alloc (.cells (arrv 4 Q) 40)).alloc (.cells (arrv 3 A) 41)).alloc (.cells #[.int .i64 0, .int .i64 0, .int .i64 0, .int .i64 0, .int .i64 0, .int .i64 0, .int .i64 0, .int .i64 0, .int .i64 0, .int .i64 0, .int .i64 0, .int .i64 0] 47)) := by
  have hcb := World.block_lt_of_cell? w c hc
  have b : Below w.heap.size w (((w.alloc (.cells (arrv 4 Q) 40)).alloc (.cells (arrv 3 A) 41)).alloc (.cells #[.int .i64 0, .int .i64 0, .int .i64 0, .int .i64 0, .int .i64 0, .int .i64 0, .int .i64 0, .int .i64 0, .int .i64 0, .int .i64 0, .int .i64 0, .int .i64 0] 47)) := by (repeat (first | with_reducible exact Below.refl _ _ | with_reducible apply Below.drew | (with_reducible refine below_drewN ?_ _) | (with_reducible refine Below.alloc ?_ (by (try simp) <;> omega) _) | (with_reducible refine Below.setCell ?_ (by (try simp) <;> omega) _)))
  refine ⟨(Upd.refl hc).then b, ((Blk.new w _ _ _).alloc _).alloc _, (Blk.new1 w _ _ _ _).alloc _, ?_, (b.cell hcb).trans hc, (b.frozen hcb).trans hf, hcb⟩
  rw [zt34]; exact blk_new2 w _ _ _ _ _
/-- .. with the vector's part of the quaternion, and the answer so far. -/
structure TvR (c : Addr) (h : Bool) (Q A U : Nat → Int) (ub ob : Nat) (F : Nat → Int) (w wr : World) : Prop where
  t : TuR c h Q A w wr
  u : Blk wr ub 41 3 U
  o : Blk wr ob 47 12 F
  lt : w.heap.size + 1 + 1 < ub ∧ ub < ob
theorem TvR.upd' (s : TvR c h Q A U ub ob F w wr) (u : Upd c h' wr w') : TvR c h' Q A U ub ob F w w' := by
  have := s.t.old
  have := s.lt
  exact ⟨s.t.upd' u, s.u.upd u (by omega), s.o.upd u (by omega), s.lt⟩
theorem TvR.low (s : TvR c h Q A U ub ob F w wr) {b : Nat} (hb : ob < b) (u : Below b wr w') : TvR c h Q A U ub ob F w w' := by
  have := s.lt
  exact ⟨s.t.low (by omega) u, (u.block _ (by omega)).trans s.u, (u.block _ (by omega)).trans s.o, s.lt⟩
theorem TvR.down (s : TvR c h Q A U ub ob F w wr) (u : Below wr.heap.size wr w') : TvR c h Q A U ub ob F w w' := s.low s.o.lt u
theorem TvR.setO (s : TvR c h Q A U ub ob F w wr) (i : Nat) (x : Int) : TvR c h Q A U ub ob (Go.Proofs.Ytanmddenleffaaa.upd F i x) w (wr.setCell ⟨ob, i, none⟩ (.int .i64 x)) := by
  have := s.t.old
  have := s.lt
  have b : Below ob wr (wr.setCell ⟨ob, i, none⟩ (.int .i64 x)) := (Below.refl _ _).setCell (show ob ≤ (⟨ob, i, none⟩ : Addr).block from Nat.le_refl _) _
  exact ⟨s.t.low (by omega) b, (b.block _ (by omega)).trans s.u, s.o.set i x, s.lt⟩
theorem TvR.congr (s : TvR c h Q A U ub ob F w wr) {G : Nat → Int} (eh : h = h') (e : ∀ i, i < 12 → F i = G i) : TvR c h' Q A U ub ob G w wr := by subst eh; exact ⟨s.t, s.u, s.o.congr e, s.lt⟩
/-- .. and a sum that is gathered. -/
structure TwR (c : Addr) (h : Bool) (Q A U : Nat → Int) (ub ob : Nat) (F : Nat → Int) (sb n : Nat) (X Y : Nat → Int) (w wr : World) : Prop where
  v : TvR c h Q A U ub ob F w wr
  m : SumR sb n X Y wr
  lt : ob < sb
variable {sb n : Nat} {X Y : Nat → Int}
theorem TwR.drew (s : TwR c h Q A U ub ob F sb n X Y w wr) : TwR c h Q A U ub ob F sb n X Y w wr.drew := ⟨s.v.down (Below.drew (Below.refl _ _)), s.m.below (Below.drew (Below.refl _ _)), s.lt⟩
theorem TwR.upd' (s : TwR c h Q A U ub ob F sb n X Y w wr) (u : Upd c h' wr w') : TwR c h' Q A U ub ob F sb n X Y w w' := by
  have := s.v.t.old
  have := s.v.lt
  have := s.lt
  exact ⟨s.v.upd' u, s.m.upd u (by omega), s.lt⟩
theorem TwR.add (s : TwR c h Q A U ub ob F sb n X Y w wr) {x y : Int} (m : SumR sb (n + 2) (ap2 X n x) (ap2 Y n y) w') (b : Below sb wr w') : TwR c h Q A U ub ob F sb (n + 2) (ap2 X n x) (ap2 Y n y) w w' := ⟨s.v.low s.lt b, m, s.lt⟩
theorem TwR.ne (s : TwR c h Q A U ub ob F sb n X Y w wr) (i : Nat) : c ≠ ⟨sb, i, none⟩ := fun e => by
  have h1 := s.v.t.old
  have h2 := s.v.lt
  have h3 := s.lt
  have : c.block = sb := by rw [e]
  omega
theorem tw_newS (s : TvR c h Q A U ub ob F w wr) (d : Nat) (e : wr.heap.size = d) : TwR c h Q A U ub ob F d 0 zF zF w (wr.alloc (.cells #[.slice none 0 0, .slice none 0 0] 76)) := by
  subst e
  exact ⟨s.down ((Below.refl _ _).alloc (Nat.le_refl _) _), SumR.new _ _ _, s.o.lt⟩
end
/-- A sum's slices, to be multiplied. -/
theorem sum_dot (c : Addr) (h : Bool) {sb n : Nat} {X Y : Nat → Int} {w : World} (s : SumR sb n X Y w) (hn : 0 < n) (hn2 : n ≤ 100) (hc : w.cell? c = some (.bool h)) (hf : w.frozen? c = false) :
    ∃ va vb, w.cell? ⟨sb, 0, none⟩ = some va ∧ w.cell? ⟨sb, 1, none⟩ = some vb ∧ Calls Try.prog 17 #[.pointer (some c), .int .i64 30, va, vb] w fun e w' => e = .returned (.int .i64 (dotV 30 X Y n)) ∧ Upd c (h || dotH 30 X Y n) w w' := by
  obtain ⟨va, vb, hh, h1, h2, _⟩ := s.blk
  have cc := cell_two hh
  refine ⟨va, vb, cc.1, cc.2.1, ?_⟩
  obtain ⟨g1, cp1, rfl, _, _, k1⟩ := h1.slc hn
  obtain ⟨g2, cp2, rfl, _, _, k2⟩ := h2.slc hn
  exact dot_any c h 30 X Y g1 0 cp1 g2 0 cp2 n w hc hf (by decide) (by decide) hn2 k1 k2
set_option maxHeartbeats 16000000 in
theorem jturned_any (c : Addr) (h : Bool) (Q0 A0 : Nat → Int) (w : World) (hc : w.cell? c = some (.bool h)) (hf : w.frozen? c = false) :
    Calls Try.prog 16 #[.pointer (some c), .agg (arrv 4 Q0), .agg (arrv 3 A0)] w fun e w' => e = .returned (.agg (arrv 12 (tuF Q0 A0))) ∧ Upd c (h || tuH Q0 A0) w w' := by
  have S0 := Lib.hid (tu_start c h Q0 A0 w hc hf)
  clear hc hf
  go_enter Try.func16, Try.ntmps16
  go_upto_region 1 with fail
  generalize ((w.alloc (.cells (arrv 4 Q0) 40)).alloc (.cells (arrv 3 A0) 41)).alloc (.cells #[.int .i64 0, .int .i64 0, .int .i64 0, .int .i64 0, .int .i64 0, .int .i64 0, .int .i64 0, .int .i64 0, .int .i64 0, .int .i64 0, .int .i64 0, .int .i64 0] 47) = W0 at *
  go_wp2_with fail
  go_loopw [17] (fun v wr => ∃ k : Nat, k ≤ 4 ∧ v = .int .i64 k ∧ Hid (TuR c (h || orB (fun i => satH (Q0 i)) k) (fun i => if i < k then satV (Q0 i) else Q0 i) A0 w wr)) (fun v _ => 4 - (intOf v).toNat)
  case atStart => exact ⟨0, by omega, rfl, Lib.hid (S0.out.congr (by simp [orB]) fun i hi => by simp)⟩
  case round =>
    obtain ⟨k, hk, rfl, R⟩ := hrel
    clear S0
    by_cases hlt : k < 4
    · have d1 : decide ((k : Int) < 4) = true := by simp; omega
      have k0 : (0 : Int) ≤ (k : Int) := Int.natCast_nonneg _
      have k1 : (k : Int) < 4 := by omega
      have qc := R.out.q.cell (i := k) (by omega)
      rw [if_neg (by omega)] at qc
      obtain ⟨x, hx⟩ : ∃ x, Q0 k = x := ⟨_, rfl⟩
      obtain ⟨H, hH⟩ : ∃ x, (h || orB (fun i => satH (Q0 i)) k) = x := ⟨_, rfl⟩
      have HH := Lib.hid (show (h || orB (fun i => satH (Q0 i)) (k + 1)) = (H || satH x) by rw [← hH, ← hx]; simp [orB, Bool.or_assoc])
      rw [hx] at qc
      rw [hH] at R
      have HX := Lib.hid hx
      clear hx hH
      go_upto_region 4 with fail
      refine wp_region_lit ?_
      refine wpList_val (v := ?_) rfl ?_ ?_
      rotate_left
      · (go_simp; (try (first | with_reducible rfl | (constructor <;> with_reducible rfl))))
      (try simp only [Act.put, nA, nB, nC])
      refine wpList_val (v := ?_) rfl ?_ ?_
      rotate_left
      · (go_simp; (try (first | with_reducible rfl | (constructor <;> with_reducible rfl))))
      (try simp only [Act.put, nA, nB, nC])
      refine wpList_val (v := ?_) rfl ?_ ?_
      rotate_left
      · (go_simp; (try (first | with_reducible rfl | (constructor <;> with_reducible rfl))))
      (try simp only [Act.put, nA, nB, nC])
      refine wpList_val (v := ?_) rfl ?_ ?_
      rotate_left
      · (go_simp; (try (first | with_reducible rfl | (constructor <;> with_reducible rfl))))
      (try simp only [Act.put, nA, nB, nC])
      refine wpList_val (v := ?_) rfl ?_ ?_
      rotate_left
      · (go_simp; (try (first | with_reducible rfl | (constructor <;> with_reducible rfl))))
      (try simp only [Act.put, nA, nB, nC])
      refine wpList_step (fun K hK => ?_)
      go_simp
      (refine (sat_upd c H x _ R.out.cell R.out.free).mono ?_); rintro e w1 ⟨rfl, hu⟩; have S := Lib.hid (R.out.upd' hu); clear hu R qc; have af := S.out.q.free k; have ac := S.out.q.cell (i := k) (by omega)
      (try dsimp only)
      (try simp only [Act.put, nA, nB, nC])
      refine hK _ _ ?_
      clear hK K
      refine wpList_val (v := ?_) rfl ?_ ?_
      rotate_left
      · (go_simp; (try (first | with_reducible rfl | (constructor <;> with_reducible rfl))))
      (try simp only [Act.put, nA, nB, nC])
      refine wpList_done (w' := ?_) rfl ?_ ?_
      rotate_left
      · (go_simp; (try (first | with_reducible rfl | (constructor <;> with_reducible rfl))))
      (try simp only [Act.put, nA, nB, nC])
      refine wpList_nil ?_
      go_wp2_with fail
      go_roundw
      case rel =>
        refine ⟨k + 1, by omega, by go_num, Lib.hid ((S.out.setQ k (satV x)).congr HH.out.symm fun i _ => ?_)⟩
        simp only [Go.Proofs.Ytanmddenleffaaa.upd]
        by_cases h1 : i = k
        · rw [if_pos h1, if_pos (by omega), h1, HX.out]
        · rw [if_neg h1]
          by_cases h2 : i < k
          · rw [if_pos h2, if_pos (by omega)]
          · rw [if_neg h2, if_neg (by omega)]
      case measure => simp [intOf]; omega
    · have hk4 : k = 4 := by omega
      subst hk4
      rw [show ((4 : Nat) : Int) = 4 from rfl]
      obtain ⟨H1, hH1⟩ : ∃ x, (h || orB (fun i => satH (Q0 i)) 4) = x := ⟨_, rfl⟩
      rw [hH1] at R
      obtain ⟨Q, hQ⟩ : ∃ x, satF Q0 = x := ⟨_, rfl⟩
      have R1 := Lib.hid (R.out.congr (Q' := Q) rfl fun i hi => by rw [if_pos hi, ← hQ]; rfl)
      have SQ : ∀ i, SB (Q i) := fun i => by rw [← hQ]; exact satV_bd _
      clear R hlt hk
      have A1 := R1.out.a
      obtain ⟨H2, hH2⟩ : ∃ x, (H1 || orB (fun i => satH (A0 i)) 3) = x := ⟨_, rfl⟩
      obtain ⟨A, hA⟩ : ∃ x, satF A0 = x := ⟨_, rfl⟩
      have VC := Lib.hid (fun (x : World) (k : x.cell? c = some (.bool H1)) (f : x.frozen? c = false) => vsat_any c H1 A0 x k f)
      rw [show (fun i => satV (A0 i)) = A from hA, hH2] at VC
      have HF := Lib.hid (show tuF Q0 A0 = tnF Q A ∧ (h || tuH Q0 A0) = (H2 || orB (tnB Q A) 3) by
        unfold tuF tuH; rw [hQ, hA, ← hH2, ← hH1]; exact ⟨rfl, by simp [Bool.or_assoc]⟩)
      have HSQ := Lib.hid SQ
      clear hQ hA hH1 hH2 SQ
      go_upto_region 6 with fail
      refine wp_region_lit ?_
      refine wpList_val (v := ?_) rfl ?_ ?_
      rotate_left
      · (go_simp; (try (first | with_reducible rfl | (constructor <;> with_reducible rfl))))
      (try simp only [Act.put, nA, nB, nC])
      refine wpList_val (v := ?_) rfl ?_ ?_
      rotate_left
      · refine Eq.trans (run_load_row 41 (.tmp 5) (by rfl) (w.heap.size + 1) (by rfl) _ _ _ _ (A1) Try.underlying41 rfl (iv3.trans (by rw [arrv_size]))) ?_; with_reducible rfl
      (try simp only [Act.put, nA, nB, nC])
      refine wpList_step (fun K hK => ?_)
      go_simp
      (refine (VC.out _ R1.out.cell R1.out.free).mono ?_); rintro e w1 ⟨rfl, hu⟩; have S := Lib.hid (R1.out.upd' hu); clear hu R1 A1 VC; have A2 := S.out.a
      (try dsimp only)
      (try simp only [Act.put, nA, nB, nC])
      refine hK _ _ ?_
      clear hK K
      refine wpList_done (w' := ?_) rfl ?_ ?_
      rotate_left
      · refine Eq.trans (run_store_row 41 (.tmp 5) (.tmp 30) (by rfl) (w.heap.size + 1) (by rfl) (by rfl) (A2) (iv3.trans rfl)) ?_; with_reducible rfl
      (try simp only [Act.put, nA, nB, nC])
      refine wpList_nil ?_
      have S2 := Lib.hid (S.out.rowA A)
      generalize w1.setRow (w.heap.size + 1) (arrv 3 A) = W2 at *
      clear S A2
      have Q2 := S2.out.q
      have U2 := Lib.hid (show Blk (W2.alloc (.cells #[.int .i64 0, .int .i64 0, .int .i64 0] 41)) W2.heap.size 41 3 (fun _ => 0) by rw [zv3]; exact Blk.new _ _ _ _)
      have haa : ∀ (g : Nat) (W : World), (Instr.arrayAt 41 (.slice (some ⟨g, 1, none⟩) 3 3)).run Try.prog W = .ok (.pointer (some ⟨g, 1, none⟩)) W := arr_v
      go_upto_region 8 with (first | (refine wpList_load_sub rfl 41 _ rfl w.heap.size 1 3 rfl Q2 (by decide) _ Try.underlying41 rfl iv3 ?_) | (refine wpList_store_row rfl 41 _ _ rfl (W2.heap.size) _ rfl rfl 41 _ (U2.out) (iv3.trans (by rw [arrv_size])) (by rw [arrv_size, arrv_size]) (oneCell_arrv _ _) ?_))
      obtain ⟨U, hU⟩ : ∃ x : Nat → Int, (fun i => Q (1 + i)) = x := ⟨_, rfl⟩
      rw [hU]
      obtain ⟨ub, hub⟩ : ∃ x, W2.heap.size = x := ⟨_, rfl⟩
      have hu0 : w.heap.size + 1 + 1 < ub := by rw [← hub]; exact S2.out.r.lt
      have S3 := Lib.hid (show TuR c H2 Q A w ((W2.alloc (.cells #[.int .i64 0, .int .i64 0, .int .i64 0] 41)).setRow W2.heap.size (arrv 3 U)) from S2.out.down (below_row ((Below.refl _ _).alloc (Nat.le_refl _) _) (Nat.le_refl _) _))
      have U3 := Lib.hid (U2.out.setRow U)
      rw [hub] at U3 S3 ⊢
      have HU := Lib.hid (fun i => show U i = Q (1 + i) by rw [← hU])
      generalize (W2.alloc (.cells #[.int .i64 0, .int .i64 0, .int .i64 0] 41)).setRow ub (arrv 3 U) = W3 at *
      clear U2 Q2 S2 hub hU haa
      go_upto_region 9 with fail
      obtain ⟨ob, hob⟩ : ∃ x, W3.heap.size = x := ⟨_, rfl⟩
      have O4 := Lib.hid (show Blk (W3.alloc (.cells #[.int .i64 0, .int .i64 0, .int .i64 0, .int .i64 0, .int .i64 0, .int .i64 0, .int .i64 0, .int .i64 0, .int .i64 0, .int .i64 0, .int .i64 0, .int .i64 0] 47)) W3.heap.size 47 12 (fun _ => 0) by rw [zt34]; exact Blk.new _ _ _ _)
      have b4 : Below W3.heap.size W3 (W3.alloc (.cells #[.int .i64 0, .int .i64 0, .int .i64 0, .int .i64 0, .int .i64 0, .int .i64 0, .int .i64 0, .int .i64 0, .int .i64 0, .int .i64 0, .int .i64 0, .int .i64 0] 47)) := (Below.refl _ _).alloc (Nat.le_refl _) _
      have S4 := Lib.hid (show TvR c H2 Q A U ub ob (tnK Q A 0 0) w (W3.alloc (.cells #[.int .i64 0, .int .i64 0, .int .i64 0, .int .i64 0, .int .i64 0, .int .i64 0, .int .i64 0, .int .i64 0, .int .i64 0, .int .i64 0, .int .i64 0, .int .i64 0] 47)) from ⟨S3.out.down b4, U3.out.below b4, by rw [← hob]; exact O4.out.congr fun i _ => by unfold tnK; rw [if_neg (by omega)], hu0, by rw [← hob]; exact U3.out.lt⟩)
      rw [hob]
      generalize W3.alloc (.cells #[.int .i64 0, .int .i64 0, .int .i64 0, .int .i64 0, .int .i64 0, .int .i64 0, .int .i64 0, .int .i64 0, .int .i64 0, .int .i64 0, .int .i64 0, .int .i64 0] 47) = W4 at *
      clear O4 b4 S3 U3 hob hu0
      go_wp2_with fail
      go_loopw [34] (fun v wr => ∃ k : Nat, k ≤ 3 ∧ v = .int .i64 k ∧ Hid (TvR c (H2 || orB (tnB Q A) k) Q A U ub ob (tnK Q A k 0) w wr)) (fun v _ => 3 - (intOf v).toNat)
      case atStart => exact ⟨0, by omega, rfl, by rw [show (H2 || orB (tnB Q A) 0) = H2 from by simp [orB]]; exact S4⟩
      case round =>
        obtain ⟨k, hk, rfl, R⟩ := hrel
        clear S4
        by_cases hlt : k < 3
        · have d1 : decide ((k : Int) < 3) = true := by simp; omega
          have k0 : (0 : Int) ≤ (k : Int) := Int.natCast_nonneg _
          have k1 : (k : Int) < 3 := by omega
          obtain ⟨H3, hH3⟩ : ∃ x, (H2 || orB (tnB Q A) k) = x := ⟨_, rfl⟩
          obtain ⟨F, hF⟩ : ∃ x, tnK Q A k 0 = x := ⟨_, rfl⟩
          rw [hH3, hF] at R
          have HH3 := Lib.hid (And.intro hH3 hF)
          clear hH3 hF
          obtain ⟨j, hj⟩ : ∃ j, (k + 1) % 3 = j := ⟨_, rfl⟩
          obtain ⟨l, hl⟩ : ∃ l, (k + 2) % 3 = l := ⟨_, rfl⟩
          have m1 : ((k : Int) + 1).tmod 3 = (j : Int) := by rw [← hj]; rcases (show k = 0 ∨ k = 1 ∨ k = 2 by omega) with rfl | rfl | rfl <;> rfl
          have m2 : ((k : Int) + 2).tmod 3 = (l : Int) := by rw [← hl]; rcases (show k = 0 ∨ k = 1 ∨ k = 2 by omega) with rfl | rfl | rfl <;> rfl
          have n1 : IntKind.i64.wrap ((k : Int) + 1) = (k : Int) + 1 := IntWalk.i64_in _ (by omega)
          have n2 : IntKind.i64.wrap ((k : Int) + 2) = (k : Int) + 2 := IntWalk.i64_in _ (by omega)
          have j0 : (0 : Int) ≤ (j : Int) := Int.natCast_nonneg _
          have j1 : (j : Int) < 3 := by omega
          have l0 : (0 : Int) ≤ (l : Int) := Int.natCast_nonneg _
          have l1 : (l : Int) < 3 := by omega
          have j3 : j < 3 := by omega
          have l3 : l < 3 := by omega
          have HJ := Lib.hid (And.intro hj hl)
          clear hj hl
          go_upto_region 13 with fail
          clear n1 n2 m1 m2
          go_upto_region 14 with fail
          obtain ⟨sb, hsb⟩ : ∃ x, wr.heap.size = x := ⟨_, rfl⟩
          have M := Lib.hid (tw_newS R.out sb hsb)
          rw [hsb]
          generalize wr.alloc (.cells #[.slice none 0 0, .slice none 0 0] 76) = X0 at *
          clear hsb R
          obtain ⟨q0, hq0⟩ : ∃ x, Q 0 = x := ⟨_, rfl⟩
          obtain ⟨qj, hqj⟩ : ∃ x, Q (1 + j) = x := ⟨_, rfl⟩
          obtain ⟨ql, hql⟩ : ∃ x, Q (1 + l) = x := ⟨_, rfl⟩
          obtain ⟨ak, hak⟩ : ∃ x, A k = x := ⟨_, rfl⟩
          obtain ⟨aj, haj⟩ : ∃ x, A j = x := ⟨_, rfl⟩
          obtain ⟨al, hal⟩ : ∃ x, A l = x := ⟨_, rfl⟩
          have ng : IntKind.i64.wrap (-ql) = -ql := sneg (by rw [← hql]; exact HSQ.out _)
          have HA1 := Lib.hid (show ap2 (ap2 (ap2 zF 0 q0) 2 qj) 4 (-ql) = fiA Q k by unfold fiA; rw [HJ.out.1, HJ.out.2, hq0, hqj, hql])
          have HB1 := Lib.hid (show ap2 (ap2 (ap2 zF 0 ak) 2 al) 4 aj = fiB A k by unfold fiB; rw [HJ.out.1, HJ.out.2, hak, haj, hal])
          have K0 := Lib.hid hq0
          have Kj := Lib.hid ((HU.out j).trans hqj)
          have Kl := Lib.hid ((HU.out l).trans hql)
          have Lk := Lib.hid hak
          have Lj := Lib.hid haj
          have Ll := Lib.hid hal
          clear hq0 hqj hql hak haj hal
          have MS := Lib.hid M.out.drew
          clear M
          refine wp_region_M (fun w' => w'.cell? ⟨w.heap.size, 0, none⟩ = some (.int .i64 q0) ∧ w'.cell? ⟨w.heap.size + 1, k, none⟩ = some (.int .i64 ak)) 5 (by kernel_rfl) ?_ (fun hHeld => ?_)
          · exact ⟨by rw [← K0.out]; exact MS.out.v.t.q.cell (by decide), by rw [← Lk.out]; exact MS.out.v.t.a.cell (by omega)⟩
          refine wpAnyM_takeW 0 (v := ?_) rfl (by kernel_rfl) (fun _ _ _ h => h) (Or.inl ⟨by rfl, ?_⟩) (.inr (by assumption)) ?_
          rotate_left
          · (intro wx hSw; (try dsimp only at hSw); go_simp; (try with_reducible rfl))
          (try simp only [Act.put, nA, nB, nC])
          refine wpAnyM_take 1 (v := ?_) rfl (by kernel_rfl) (fun _ _ _ h => h) (Or.inl ⟨by rfl, ?_⟩) (by assumption) ?_
          rotate_left
          · (intro wx hSw; (try dsimp only at hSw); go_simp; (try with_reducible rfl))
          (try simp only [Act.put, nA, nB, nC])
          refine wpAnyM_takeW 2 (v := ?_) rfl (by kernel_rfl) (fun _ _ _ h => h) (Or.inl ⟨by rfl, ?_⟩) (.inr (by assumption)) ?_
          rotate_left
          · (intro wx hSw; (try dsimp only at hSw); go_simp; (try with_reducible rfl))
          (try simp only [Act.put, nA, nB, nC])
          refine wpAnyM_takeW 3 (v := ?_) rfl (by kernel_rfl) (fun _ _ _ h => h) (Or.inl ⟨by rfl, ?_⟩) (.inr (by assumption)) ?_
          rotate_left
          · (intro wx hSw; (try dsimp only at hSw); go_simp; (try with_reducible rfl))
          (try simp only [Act.put, nA, nB, nC])
          refine wpAnyM_take 4 (v := ?_) rfl (by kernel_rfl) (fun _ _ _ h => h) (Or.inl ⟨by rfl, ?_⟩) (by assumption) ?_
          rotate_left
          · (intro wx hSw; (try dsimp only at hSw); go_simp; (try with_reducible rfl))
          (try simp only [Act.put, nA, nB, nC])
          refine wpAnyM_one 5 rfl (by kernel_rfl) (fun K hK => ?_)
          go_simp
          (refine (jadd_any sb 0 _ _ q0 ak _ MS.out.m (by decide)).mono ?_); rintro e w1 ⟨⟨v1, rfl⟩, hm, hb⟩; have MT := Lib.hid (MS.out.add hm hb); clear hm hb MS; have MS := MT; clear MT
          (try dsimp only)
          (try simp only [Act.put, nA, nB, nC])
          refine hK.out _ _ (.inl (by kernel_rfl)) (fun _ => ?_)
          clear hK K
          (try simp only [Act.put, nA, nB, nC])
          refine wpAnyM_done (by kernel_rfl) ?_ _
          go_upto_region 15 with fail
          have MT := Lib.hid MS.out.drew
          clear MS
          have MS := MT
          clear MT
          refine wp_region_M (fun w' => w'.cell? ⟨ub, j, none⟩ = some (.int .i64 qj) ∧ w'.cell? ⟨w.heap.size + 1, l, none⟩ = some (.int .i64 al)) 6 (by kernel_rfl) ?_ (fun hHeld => ?_)
          · exact ⟨by rw [← Kj.out]; exact MS.out.v.u.cell (by omega), by rw [← Ll.out]; exact MS.out.v.t.a.cell (by omega)⟩
          refine wpAnyM_takeW 0 (v := ?_) rfl (by kernel_rfl) (fun _ _ _ h => h) (Or.inl ⟨by rfl, ?_⟩) (.inr (by assumption)) ?_
          rotate_left
          · (intro wx hSw; (try dsimp only at hSw); go_simp; (try with_reducible rfl))
          (try simp only [Act.put, nA, nB, nC])
          refine wpAnyM_takeW 1 (v := ?_) rfl (by kernel_rfl) (fun _ _ _ h => h) (Or.inl ⟨by rfl, ?_⟩) (.inr (by assumption)) ?_
          rotate_left
          · (intro wx hSw; (try dsimp only at hSw); go_simp; (try with_reducible rfl))
          (try simp only [Act.put, nA, nB, nC])
          refine wpAnyM_take 2 (v := ?_) rfl (by kernel_rfl) (fun _ _ _ h => h) (Or.inl ⟨by rfl, ?_⟩) (by assumption) ?_
          rotate_left
          · (intro wx hSw; (try dsimp only at hSw); go_simp; (try with_reducible rfl))
          (try simp only [Act.put, nA, nB, nC])
          refine wpAnyM_takeW 3 (v := ?_) rfl (by kernel_rfl) (fun _ _ _ h => h) (Or.inl ⟨by rfl, ?_⟩) (.inr (by assumption)) ?_
          rotate_left
          · (intro wx hSw; (try dsimp only at hSw); go_simp; (try with_reducible rfl))
          (try simp only [Act.put, nA, nB, nC])
          refine wpAnyM_takeW 4 (v := ?_) rfl (by kernel_rfl) (fun _ _ _ h => h) (Or.inl ⟨by rfl, ?_⟩) (.inr (by assumption)) ?_
          rotate_left
          · (intro wx hSw; (try dsimp only at hSw); go_simp; (try with_reducible rfl))
          (try simp only [Act.put, nA, nB, nC])
          refine wpAnyM_take 5 (v := ?_) rfl (by kernel_rfl) (fun _ _ _ h => h) (Or.inl ⟨by rfl, ?_⟩) (by assumption) ?_
          rotate_left
          · (intro wx hSw; (try dsimp only at hSw); go_simp; (try with_reducible rfl))
          (try simp only [Act.put, nA, nB, nC])
          refine wpAnyM_one 6 rfl (by kernel_rfl) (fun K hK => ?_)
          go_simp
          (refine (jadd_any sb 2 _ _ qj al _ MS.out.m (by decide)).mono ?_); rintro e w1 ⟨⟨v1, rfl⟩, hm, hb⟩; have MT := Lib.hid (MS.out.add hm hb); clear hm hb MS; have MS := MT; clear MT
          (try dsimp only)
          (try simp only [Act.put, nA, nB, nC])
          refine hK.out _ _ (.inl (by kernel_rfl)) (fun _ => ?_)
          clear hK K
          (try simp only [Act.put, nA, nB, nC])
          refine wpAnyM_done (by kernel_rfl) ?_ _
          go_upto_region 16 with fail
          have MT := Lib.hid MS.out.drew
          clear MS
          have MS := MT
          clear MT
          refine wp_region_M (fun w' => w'.cell? ⟨ub, l, none⟩ = some (.int .i64 ql) ∧ w'.cell? ⟨w.heap.size + 1, j, none⟩ = some (.int .i64 aj)) 7 (by kernel_rfl) ?_ (fun hHeld => ?_)
          · exact ⟨by rw [← Kl.out]; exact MS.out.v.u.cell (by omega), by rw [← Lj.out]; exact MS.out.v.t.a.cell (by omega)⟩
          refine wpAnyM_takeX [1, 2, 3, 7] 0 (v := ?_) rfl (by kernel_rfl) (fun _ _ _ h => h) (Or.inl ⟨by rfl, ?_⟩) (by assumption) ?_
          rotate_left
          · (intro wx hSw; (try dsimp only at hSw); go_simp; (try with_reducible rfl))
          (try simp only [Act.put, nA, nB, nC])
          refine wpAnyM_takeX [2, 3, 7] 1 (v := ?_) rfl (by kernel_rfl) (fun _ _ _ h => h) (Or.inl ⟨by rfl, ?_⟩) (by assumption) ?_
          rotate_left
          · (intro wx hSw; (try dsimp only at hSw); go_simp; (try with_reducible rfl))
          (try simp only [Act.put, nA, nB, nC])
          refine wpAnyM_takeX [3, 7] 2 (v := ?_) rfl (by kernel_rfl) (fun _ _ _ h => h) (Or.inl ⟨by rfl, ?_⟩) (by assumption) ?_
          rotate_left
          · (intro wx hSw; (try dsimp only at hSw); go_simp; (try with_reducible rfl))
          (try simp only [Act.put, nA, nB, nC])
          refine wpAnyM_take 3 (v := ?_) rfl (by kernel_rfl) (fun _ _ _ h => h) (Or.inl ⟨by rfl, ?_⟩) (by assumption) ?_
          rotate_left
          · (intro wx hSw; (try dsimp only at hSw); go_simp; (try rw [ng]); (try with_reducible rfl))
          (try simp only [Act.put, nA, nB, nC])
          refine wpAnyM_takeX [5, 6, 7] 4 (v := ?_) rfl (by kernel_rfl) (fun _ _ _ h => h) (Or.inl ⟨by rfl, ?_⟩) (by assumption) ?_
          rotate_left
          · (intro wx hSw; (try dsimp only at hSw); go_simp; (try with_reducible rfl))
          (try simp only [Act.put, nA, nB, nC])
          refine wpAnyM_takeX [6, 7] 5 (v := ?_) rfl (by kernel_rfl) (fun _ _ _ h => h) (Or.inl ⟨by rfl, ?_⟩) (by assumption) ?_
          rotate_left
          · (intro wx hSw; (try dsimp only at hSw); go_simp; (try with_reducible rfl))
          (try simp only [Act.put, nA, nB, nC])
          refine wpAnyM_take 6 (v := ?_) rfl (by kernel_rfl) (fun _ _ _ h => h) (Or.inl ⟨by rfl, ?_⟩) (by assumption) ?_
          rotate_left
          · (intro wx hSw; (try dsimp only at hSw); go_simp; (try with_reducible rfl))
          (try simp only [Act.put, nA, nB, nC])
          refine wpAnyM_one 7 rfl (by kernel_rfl) (fun K hK => ?_)
          go_simp
          (refine (jadd_any sb 4 _ _ (-ql) aj _ MS.out.m (by decide)).mono ?_); rintro e w1 ⟨⟨v1, rfl⟩, hm, hb⟩; have MT := Lib.hid (MS.out.add hm hb); clear hm hb MS; have MS := MT; clear MT
          (try dsimp only)
          (try simp only [Act.put, nA, nB, nC])
          refine hK.out _ _ (.inl (by kernel_rfl)) (fun _ => ?_)
          clear hK K
          (try simp only [Act.put, nA, nB, nC])
          refine wpAnyM_done (by kernel_rfl) ?_ _
          go_upto_region 17 with fail
          have MT := Lib.hid MS.out.drew
          clear MS
          have MS := MT
          clear MT
          have hs0 := MS.out.ne 0
          have hs1 := MS.out.ne 1
          obtain ⟨va, vb, c0, c1, DT⟩ := sum_dot c H3 MS.out.m (by decide) (by decide) MS.out.v.t.cell MS.out.v.t.free
          rw [HA1.out, HB1.out] at DT
          have DT := Lib.hid DT
          refine wp_region_M (fun w' => w'.cell? ⟨sb, 0, none⟩ = some va ∧ w'.cell? ⟨sb, 1, none⟩ = some vb) 9 (by kernel_rfl) ?_ (fun hHeld => ?_)
          · exact ⟨c0, c1⟩
          refine wpAnyM_take 0 (v := ?_) rfl (by kernel_rfl) (fun _ _ _ h => h) (Or.inl ⟨by rfl, ?_⟩) (by assumption) ?_
          rotate_left
          · (intro wx hSw; (try dsimp only at hSw); go_simp; (try with_reducible rfl))
          (try simp only [Act.put, nA, nB, nC])
          refine wpAnyM_take 1 (v := ?_) rfl (by kernel_rfl) (fun _ _ _ h => h) (Or.inl ⟨by rfl, ?_⟩) (by assumption) ?_
          rotate_left
          · (intro wx hSw; (try dsimp only at hSw); go_simp; (try with_reducible rfl))
          (try simp only [Act.put, nA, nB, nC])
          refine wpAnyM_take 2 (v := ?_) rfl (by kernel_rfl) (fun _ _ _ h => h) (Or.inl ⟨by rfl, ?_⟩) (by assumption) ?_
          rotate_left
          · (intro wx hSw; (try dsimp only at hSw); go_simp; (try with_reducible rfl))
          (try simp only [Act.put, nA, nB, nC])
          refine wpAnyM_take 3 (v := ?_) rfl (by kernel_rfl) (fun _ _ _ h => h) (Or.inl ⟨by rfl, ?_⟩) (by assumption) ?_
          rotate_left
          · (intro wx hSw; (try dsimp only at hSw); go_simp; (try with_reducible rfl))
          (try simp only [Act.put, nA, nB, nC])
          refine wpAnyM_take 4 (v := ?_) rfl (by kernel_rfl) (fun _ _ _ h => h) (Or.inl ⟨by rfl, ?_⟩) (by assumption) ?_
          rotate_left
          · (intro wx hSw; (try dsimp only at hSw); go_simp; (try with_reducible rfl))
          (try simp only [Act.put, nA, nB, nC])
          refine wpAnyM_take 5 (v := ?_) rfl (by kernel_rfl) (fun _ _ _ h => h) (Or.inl ⟨by rfl, ?_⟩) (by assumption) ?_
          rotate_left
          · (intro wx hSw; (try dsimp only at hSw); go_simp; (try with_reducible rfl))
          (try simp only [Act.put, nA, nB, nC])
          refine wpAnyM_takeW 7 (v := ?_) rfl (by kernel_rfl) (fun _ _ _ h => h) (Or.inl ⟨by rfl, ?_⟩) (.inr (by assumption)) ?_
          rotate_left
          · (intro wx hSw; (try dsimp only at hSw); go_simp; (try with_reducible rfl))
          (try simp only [Act.put, nA, nB, nC])
          refine wpAnyM_oneS 6 rfl (by kernel_rfl) (fun K hK => ?_)
          go_simp
          (refine DT.out.mono ?_); rintro e w1 ⟨rfl, hu⟩; have d0 := (hu.cell (World.block_lt_of_cell? _ _ c0) hs0).trans c0; have d1 := (hu.cell (World.block_lt_of_cell? _ _ c1) hs1).trans c1; have MT := Lib.hid (MS.out.upd' hu); clear hu MS DT; have MS := MT; clear MT; have of := MS.out.v.o.free (k * 4); have oc := MS.out.v.o.cell (i := k * 4) (by omega)
          (try dsimp only)
          (try simp only [Act.put, nA, nB, nC])
          clear hHeld
          refine hK.out _ _ ?_ (fun hHeld => ?_)
          · exact ⟨d0, d1⟩
          clear hK K
          (try simp only [Act.put, nA, nB, nC])
          refine wpAnyM_take 8 (v := ?_) rfl (by kernel_rfl) (fun _ _ _ h => h) (Or.inl ⟨by rfl, ?_⟩) (by assumption) ?_
          rotate_left
          · (intro wx hSw; (try dsimp only at hSw); go_simp; (try with_reducible rfl))
          (try simp only [Act.put, nA, nB, nC])
          refine wpAnyM_one 9 rfl (by kernel_rfl) (fun K hK => ?_)
          go_simp
          refine hK.out _ _ (.inl (by kernel_rfl)) (fun _ => ?_)
          clear hK K
          (try simp only [Act.put, nA, nB, nC])
          refine wpAnyM_done (by kernel_rfl) ?_ _
          obtain ⟨y, hy⟩ : ∃ y, dotV 30 (fiA Q k) (fiB A k) 6 = y := ⟨_, rfl⟩
          obtain ⟨H4, hH4⟩ : ∃ x, (H3 || dotH 30 (fiA Q k) (fiB A k) 6) = x := ⟨_, rfl⟩
          rw [hH4] at MS
          rw [hy]
          have HY := Lib.hid (And.intro hy hH4)
          clear hy hH4
          go_upto_region 18 with fail
          have S5 := Lib.hid (show TvR c H4 Q A U ub ob (tnK Q A k 1) w (w1.setCell ⟨ob, k * 4, none⟩ (.int .i64 y)) from (MS.out.v.setO (k * 4) y).congr rfl fun x _ => by rw [← HH3.out.2, ← HY.out.1]; exact tnK_first Q A k x)
          generalize w1.setCell ⟨ob, k * 4, none⟩ (.int .i64 y) = W5 at *
          clear MS of oc DT c0 c1 d0 d1 hs0 hs1 HA1 HB1 K0 Kj Kl Lk Lj Ll ng HJ j0 j1 j3 l0 l1 l3
          go_wp2_with fail
          go_loopw [73] (fun v wr => ∃ i : Nat, i ≤ 3 ∧ v = .int .i64 i ∧ Hid (TvR c (H4 || orB (tnI Q A k) i) Q A U ub ob (tnK Q A k (1 + i)) w wr)) (fun v _ => 3 - (intOf v).toNat)
          case atStart => exact ⟨0, by omega, rfl, by rw [show (H4 || orB (tnI Q A k) 0) = H4 from by simp [orB]]; exact S5⟩
          case round =>
            obtain ⟨i, hi, rfl, R⟩ := hrel
            clear S5
            by_cases hi3 : i < 3
            · have d2 : decide ((i : Int) < 3) = true := by simp; omega
              have i0 : (0 : Int) ≤ (i : Int) := Int.natCast_nonneg _
              have i1 : (i : Int) < 3 := by omega
              obtain ⟨H5, hH5⟩ : ∃ x, (H4 || orB (tnI Q A k) i) = x := ⟨_, rfl⟩
              obtain ⟨F5, hF5⟩ : ∃ x, tnK Q A k (1 + i) = x := ⟨_, rfl⟩
              rw [hH5, hF5] at R
              have HG := Lib.hid (And.intro hH5 hF5)
              clear hH5 hF5
              go_upto_region 22 with fail
              obtain ⟨sb, hsb⟩ : ∃ x, wr.heap.size = x := ⟨_, rfl⟩
              have M := Lib.hid (tw_newS R.out sb hsb)
              rw [hsb]
              generalize wr.alloc (.cells #[.slice none 0 0, .slice none 0 0] 76) = X1 at *
              clear hsb R
              have MS := Lib.hid M.out.drew
              clear M
              obtain ⟨qi, hqi⟩ : ∃ x, Q (1 + i) = x := ⟨_, rfl⟩
              obtain ⟨qk, hqk⟩ : ∃ x, Q (1 + k) = x := ⟨_, rfl⟩
              obtain ⟨ai, hai⟩ : ∃ x, A i = x := ⟨_, rfl⟩
              obtain ⟨ak, hak⟩ : ∃ x, A k = x := ⟨_, rfl⟩
              have ng : IntKind.i64.wrap (-qi) = -qi := sneg (by rw [← hqi]; exact HSQ.out _)
              have ni1 : IntKind.i64.wrap (1 + (i : Int)) = 1 + (i : Int) := IntWalk.i64_in _ (by omega)
              have ni2 : 0 ≤ 1 + (i : Int) := by omega
              have ni3 : 1 + (i : Int) < 4 := by omega
              have ni4 : (1 + (i : Int)).toNat = 1 + i := by omega
              have HA2 := Lib.hid (show ap2 (ap2 zF 0 (-qi)) 2 qk = s2A Q k i by unfold s2A; rw [hqi, hqk])
              have HB2 := Lib.hid (show ap2 (ap2 zF 0 ak) 2 ai = s2B A k i by unfold s2B; rw [hai, hak])
              have Ki := Lib.hid ((HU.out i).trans hqi)
              have Kk := Lib.hid ((HU.out k).trans hqk)
              have Li := Lib.hid hai
              have Lk := Lib.hid hak
              clear hqi hqk hai hak
              refine wp_region_M (fun w' => w'.cell? ⟨ub, i, none⟩ = some (.int .i64 qi) ∧ w'.cell? ⟨w.heap.size + 1, k, none⟩ = some (.int .i64 ak)) 7 (by kernel_rfl) ?_ (fun hHeld => ?_)
              · exact ⟨by rw [← Ki.out]; exact MS.out.v.u.cell (by omega), by rw [← Lk.out]; exact MS.out.v.t.a.cell (by omega)⟩
              refine wpAnyM_takeX [1, 2, 3, 7] 0 (v := ?_) rfl (by kernel_rfl) (fun _ _ _ h => h) (Or.inl ⟨by rfl, ?_⟩) (by assumption) ?_
              rotate_left
              · (intro wx hSw; (try dsimp only at hSw); go_simp; (try with_reducible rfl))
              (try simp only [Act.put, nA, nB, nC])
              refine wpAnyM_takeX [2, 3, 7] 1 (v := ?_) rfl (by kernel_rfl) (fun _ _ _ h => h) (Or.inl ⟨by rfl, ?_⟩) (by assumption) ?_
              rotate_left
              · (intro wx hSw; (try dsimp only at hSw); go_simp; (try with_reducible rfl))
              (try simp only [Act.put, nA, nB, nC])
              refine wpAnyM_takeX [3, 7] 2 (v := ?_) rfl (by kernel_rfl) (fun _ _ _ h => h) (Or.inl ⟨by rfl, ?_⟩) (by assumption) ?_
              rotate_left
              · (intro wx hSw; (try dsimp only at hSw); go_simp; (try with_reducible rfl))
              (try simp only [Act.put, nA, nB, nC])
              refine wpAnyM_take 3 (v := ?_) rfl (by kernel_rfl) (fun _ _ _ h => h) (Or.inl ⟨by rfl, ?_⟩) (by assumption) ?_
              rotate_left
              · (intro wx hSw; (try dsimp only at hSw); go_simp; (try rw [ng]); (try with_reducible rfl))
              (try simp only [Act.put, nA, nB, nC])
              refine wpAnyM_takeX [5, 6, 7] 4 (v := ?_) rfl (by kernel_rfl) (fun _ _ _ h => h) (Or.inl ⟨by rfl, ?_⟩) (by assumption) ?_
              rotate_left
              · (intro wx hSw; (try dsimp only at hSw); go_simp; (try with_reducible rfl))
              (try simp only [Act.put, nA, nB, nC])
              refine wpAnyM_takeX [6, 7] 5 (v := ?_) rfl (by kernel_rfl) (fun _ _ _ h => h) (Or.inl ⟨by rfl, ?_⟩) (by assumption) ?_
              rotate_left
              · (intro wx hSw; (try dsimp only at hSw); go_simp; (try with_reducible rfl))
              (try simp only [Act.put, nA, nB, nC])
              refine wpAnyM_take 6 (v := ?_) rfl (by kernel_rfl) (fun _ _ _ h => h) (Or.inl ⟨by rfl, ?_⟩) (by assumption) ?_
              rotate_left
              · (intro wx hSw; (try dsimp only at hSw); go_simp; (try with_reducible rfl))
              (try simp only [Act.put, nA, nB, nC])
              refine wpAnyM_one 7 rfl (by kernel_rfl) (fun K hK => ?_)
              go_simp
              (refine (jadd_any sb 0 _ _ (-qi) ak _ MS.out.m (by omega)).mono ?_); rintro e w1 ⟨⟨v1, rfl⟩, hm, hb⟩; have MT := Lib.hid (MS.out.add hm hb); clear hm hb MS; have MS := MT; clear MT
              (try dsimp only)
              (try simp only [Act.put, nA, nB, nC])
              refine hK.out _ _ (.inl (by kernel_rfl)) (fun _ => ?_)
              clear hK K
              (try simp only [Act.put, nA, nB, nC])
              refine wpAnyM_done (by kernel_rfl) ?_ _
              go_upto_region 23 with fail
              have MT := Lib.hid MS.out.drew
              clear MS
              have MS := MT
              clear MT
              refine wp_region_M (fun w' => w'.cell? ⟨ub, k, none⟩ = some (.int .i64 qk) ∧ w'.cell? ⟨w.heap.size + 1, i, none⟩ = some (.int .i64 ai)) 6 (by kernel_rfl) ?_ (fun hHeld => ?_)
              · exact ⟨by rw [← Kk.out]; exact MS.out.v.u.cell (by omega), by rw [← Li.out]; exact MS.out.v.t.a.cell (by omega)⟩
              refine wpAnyM_takeW 0 (v := ?_) rfl (by kernel_rfl) (fun _ _ _ h => h) (Or.inl ⟨by rfl, ?_⟩) (.inr (by assumption)) ?_
              rotate_left
              · (intro wx hSw; (try dsimp only at hSw); go_simp; (try with_reducible rfl))
              (try simp only [Act.put, nA, nB, nC])
              refine wpAnyM_takeW 1 (v := ?_) rfl (by kernel_rfl) (fun _ _ _ h => h) (Or.inl ⟨by rfl, ?_⟩) (.inr (by assumption)) ?_
              rotate_left
              · (intro wx hSw; (try dsimp only at hSw); go_simp; (try with_reducible rfl))
              (try simp only [Act.put, nA, nB, nC])
              refine wpAnyM_take 2 (v := ?_) rfl (by kernel_rfl) (fun _ _ _ h => h) (Or.inl ⟨by rfl, ?_⟩) (by assumption) ?_
              rotate_left
              · (intro wx hSw; (try dsimp only at hSw); go_simp; (try with_reducible rfl))
              (try simp only [Act.put, nA, nB, nC])
              refine wpAnyM_takeW 3 (v := ?_) rfl (by kernel_rfl) (fun _ _ _ h => h) (Or.inl ⟨by rfl, ?_⟩) (.inr (by assumption)) ?_
              rotate_left
              · (intro wx hSw; (try dsimp only at hSw); go_simp; (try with_reducible rfl))
              (try simp only [Act.put, nA, nB, nC])
              refine wpAnyM_takeW 4 (v := ?_) rfl (by kernel_rfl) (fun _ _ _ h => h) (Or.inl ⟨by rfl, ?_⟩) (.inr (by assumption)) ?_
              rotate_left
              · (intro wx hSw; (try dsimp only at hSw); go_simp; (try with_reducible rfl))
              (try simp only [Act.put, nA, nB, nC])
              refine wpAnyM_take 5 (v := ?_) rfl (by kernel_rfl) (fun _ _ _ h => h) (Or.inl ⟨by rfl, ?_⟩) (by assumption) ?_
              rotate_left
              · (intro wx hSw; (try dsimp only at hSw); go_simp; (try with_reducible rfl))
              (try simp only [Act.put, nA, nB, nC])
              refine wpAnyM_one 6 rfl (by kernel_rfl) (fun K hK => ?_)
              go_simp
              (refine (jadd_any sb 2 _ _ qk ai _ MS.out.m (by omega)).mono ?_); rintro e w1 ⟨⟨v1, rfl⟩, hm, hb⟩; have MT := Lib.hid (MS.out.add hm hb); clear hm hb MS; have MS := MT; clear MT
              (try dsimp only)
              (try simp only [Act.put, nA, nB, nC])
              refine hK.out _ _ (.inl (by kernel_rfl)) (fun _ => ?_)
              clear hK K
              (try simp only [Act.put, nA, nB, nC])
              refine wpAnyM_done (by kernel_rfl) ?_ _
              rw [show (0 + 2 + 2 : Nat) = 4 from rfl] at MS
              rw [HA2.out, HB2.out] at MS
              clear HA2 HB2 Ki Kk Li Lk ng
              by_cases hki : k = i
              · have e1 : ((k : Int) == (i : Int)) = true := by simp; omega
                have HE := Lib.hid hki
                have HN := Lib.hid (show 10 = suN k i by unfold suN; rw [if_pos hki])
                have HX := Lib.hid (And.intro (show s5A Q k i 3 = suA Q k i by unfold suA; rw [if_pos hki]) (show s5B A k i 3 = suB A k i by unfold suB; rw [if_pos hki]))
                clear hki
                have E1 := Lib.hid e1
                clear e1
                go_upto_region 26 with fail
                refine wp_region_lit ?_
                refine wpList_val (v := ?_) rfl ?_ ?_
                rotate_left
                · (go_simp; (try (first | with_reducible rfl | (constructor <;> with_reducible rfl))))
                (try simp only [Act.put, nA, nB, nC])
                refine wpList_val (v := ?_) rfl ?_ ?_
                rotate_left
                · (go_simp; rw [E1.out])
                (try simp only [Act.put, nA, nB, nC])
                refine wpList_val (v := ?_) rfl ?_ ?_
                rotate_left
                · (go_simp; (try (first | with_reducible rfl | (constructor <;> with_reducible rfl))))
                (try simp only [Act.put, nA, nB, nC])
                refine wpList_nil ?_
                go_wp2_with fail
                go_loopw [103] (fun v wr => ∃ n : Nat, n ≤ 3 ∧ v = .int .i64 n ∧ Hid (TwR c H5 Q A U ub ob F5 sb (4 + 2 * n) (s5A Q k i n) (s5B A k i n) w wr)) (fun v _ => 3 - (intOf v).toNat)
                case atStart => exact ⟨0, by omega, rfl, MS⟩
                case round =>
                  obtain ⟨n, hn, rfl, MR⟩ := hrel
                  clear MS
                  by_cases hn3 : n < 3
                  · have d3 : decide ((n : Int) < 3) = true := by simp; omega
                    have n0 : (0 : Int) ≤ (n : Int) := Int.natCast_nonneg _
                    have n1 : (n : Int) < 3 := by omega
                    obtain ⟨qn, hqn⟩ : ∃ x, Q (1 + n) = x := ⟨_, rfl⟩
                    obtain ⟨an, han⟩ : ∃ x, A n = x := ⟨_, rfl⟩
                    obtain ⟨SA, hSA⟩ : ∃ x, s5A Q k i n = x := ⟨_, rfl⟩
                    obtain ⟨SB', hSB⟩ : ∃ x, s5B A k i n = x := ⟨_, rfl⟩
                    obtain ⟨len, hlen⟩ : ∃ x, 4 + 2 * n = x := ⟨_, rfl⟩
                    rw [hSA, hSB, hlen] at MR
                    have HW := Lib.hid (And.intro (show ap2 SA len qn = s5A Q k i (n + 1) by rw [← hSA, ← hqn, ← hlen]; rfl) (show ap2 SB' len an = s5B A k i (n + 1) by rw [← hSB, ← han, ← hlen]; rfl))
                    have HL := Lib.hid hlen
                    have hl10 : len ≤ 10 := by omega
                    have Kn := Lib.hid ((HU.out n).trans hqn)
                    have Ln := Lib.hid han
                    clear hqn han hSA hSB hlen
                    go_upto_region 30 with fail
                    have MS := Lib.hid MR.out.drew
                    clear MR
                    refine wp_region_M (fun w' => w'.cell? ⟨ub, n, none⟩ = some (.int .i64 qn) ∧ w'.cell? ⟨w.heap.size + 1, n, none⟩ = some (.int .i64 an)) 6 (by kernel_rfl) ?_ (fun hHeld => ?_)
                    · exact ⟨by rw [← Kn.out]; exact MS.out.v.u.cell (by omega), by rw [← Ln.out]; exact MS.out.v.t.a.cell (by omega)⟩
                    refine wpAnyM_takeW 0 (v := ?_) rfl (by kernel_rfl) (fun _ _ _ h => h) (Or.inl ⟨by rfl, ?_⟩) (.inr (by assumption)) ?_
                    rotate_left
                    · (intro wx hSw; (try dsimp only at hSw); go_simp; (try with_reducible rfl))
                    (try simp only [Act.put, nA, nB, nC])
                    refine wpAnyM_takeW 1 (v := ?_) rfl (by kernel_rfl) (fun _ _ _ h => h) (Or.inl ⟨by rfl, ?_⟩) (.inr (by assumption)) ?_
                    rotate_left
                    · (intro wx hSw; (try dsimp only at hSw); go_simp; (try with_reducible rfl))
                    (try simp only [Act.put, nA, nB, nC])
                    refine wpAnyM_take 2 (v := ?_) rfl (by kernel_rfl) (fun _ _ _ h => h) (Or.inl ⟨by rfl, ?_⟩) (by assumption) ?_
                    rotate_left
                    · (intro wx hSw; (try dsimp only at hSw); go_simp; (try with_reducible rfl))
                    (try simp only [Act.put, nA, nB, nC])
                    refine wpAnyM_takeW 3 (v := ?_) rfl (by kernel_rfl) (fun _ _ _ h => h) (Or.inl ⟨by rfl, ?_⟩) (.inr (by assumption)) ?_
                    rotate_left
                    · (intro wx hSw; (try dsimp only at hSw); go_simp; (try with_reducible rfl))
                    (try simp only [Act.put, nA, nB, nC])
                    refine wpAnyM_takeW 4 (v := ?_) rfl (by kernel_rfl) (fun _ _ _ h => h) (Or.inl ⟨by rfl, ?_⟩) (.inr (by assumption)) ?_
                    rotate_left
                    · (intro wx hSw; (try dsimp only at hSw); go_simp; (try with_reducible rfl))
                    (try simp only [Act.put, nA, nB, nC])
                    refine wpAnyM_take 5 (v := ?_) rfl (by kernel_rfl) (fun _ _ _ h => h) (Or.inl ⟨by rfl, ?_⟩) (by assumption) ?_
                    rotate_left
                    · (intro wx hSw; (try dsimp only at hSw); go_simp; (try with_reducible rfl))
                    (try simp only [Act.put, nA, nB, nC])
                    refine wpAnyM_one 6 rfl (by kernel_rfl) (fun K hK => ?_)
                    go_simp
                    (refine (jadd_any sb len SA SB' qn an _ MS.out.m (by omega)).mono ?_); rintro e w1 ⟨⟨v1, rfl⟩, hm, hb⟩; have MT := Lib.hid (MS.out.add hm hb); clear hm hb MS; have MS := MT; clear MT
                    (try dsimp only)
                    (try simp only [Act.put, nA, nB, nC])
                    refine hK.out _ _ (.inl (by kernel_rfl)) (fun _ => ?_)
                    clear hK K
                    (try simp only [Act.put, nA, nB, nC])
                    refine wpAnyM_done (by kernel_rfl) ?_ _
                    go_wp2_with fail
                    go_roundw
                    case rel =>
                      refine ⟨n + 1, by omega, by go_num, ?_⟩
                      have MT := MS.out
                      rw [HW.out.1, HW.out.2, ← HL.out] at MT
                      exact MT
                    case measure => simp [intOf]; omega
                  · have hn4 : n = 3 := by omega
                    subst hn4
                    rw [show ((3 : Nat) : Int) = 3 from rfl]
                    have MS := Lib.hid MR.out
                    clear MR hn hn3
                    rw [show 4 + 2 * 3 = 10 from rfl] at MS
                    go_upto_region 34 with fail
                    have MT := Lib.hid MS.out.drew
                    clear MS
                    have MS := MT
                    clear MT
                    have hs0 := MS.out.ne 0
                    have hs1 := MS.out.ne 1
                    obtain ⟨va, vb, c0, c1, DT⟩ := sum_dot c H5 MS.out.m (by decide) (by decide) MS.out.v.t.cell MS.out.v.t.free
                    rw [show dotV 30 _ _ 10 = dotV 30 (suA Q k i) (suB A k i) (suN k i) from by rw [HX.out.1, HX.out.2, HN.out], show dotH 30 _ _ 10 = dotH 30 (suA Q k i) (suB A k i) (suN k i) from by rw [HX.out.1, HX.out.2, HN.out]] at DT
                    obtain ⟨y, hy⟩ : ∃ y, dotV 30 (suA Q k i) (suB A k i) (suN k i) = y := ⟨_, rfl⟩
                    obtain ⟨H6, hH6⟩ : ∃ x, (H5 || dotH 30 (suA Q k i) (suB A k i) (suN k i)) = x := ⟨_, rfl⟩
                    rw [hy, hH6] at DT
                    have DT := Lib.hid DT
                    have HZ := Lib.hid (And.intro hy hH6)
                    clear hy hH6
                    refine wp_region_M (fun w' => w'.cell? ⟨sb, 0, none⟩ = some va ∧ w'.cell? ⟨sb, 1, none⟩ = some vb) 11 (by kernel_rfl) ?_ (fun hHeld => ?_)
                    · exact ⟨c0, c1⟩
                    refine wpAnyM_take 0 (v := ?_) rfl (by kernel_rfl) (fun _ _ _ h => h) (Or.inl ⟨by rfl, ?_⟩) (by assumption) ?_
                    rotate_left
                    · (intro wx hSw; (try dsimp only at hSw); go_simp; (try with_reducible rfl))
                    (try simp only [Act.put, nA, nB, nC])
                    refine wpAnyM_take 1 (v := ?_) rfl (by kernel_rfl) (fun _ _ _ h => h) (Or.inl ⟨by rfl, ?_⟩) (by assumption) ?_
                    rotate_left
                    · (intro wx hSw; (try dsimp only at hSw); go_simp; (try with_reducible rfl))
                    (try simp only [Act.put, nA, nB, nC])
                    refine wpAnyM_take 2 (v := ?_) rfl (by kernel_rfl) (fun _ _ _ h => h) (Or.inl ⟨by rfl, ?_⟩) (by assumption) ?_
                    rotate_left
                    · (intro wx hSw; (try dsimp only at hSw); go_simp; (try with_reducible rfl))
                    (try simp only [Act.put, nA, nB, nC])
                    refine wpAnyM_take 3 (v := ?_) rfl (by kernel_rfl) (fun _ _ _ h => h) (Or.inl ⟨by rfl, ?_⟩) (by assumption) ?_
                    rotate_left
                    · (intro wx hSw; (try dsimp only at hSw); go_simp; (try with_reducible rfl))
                    (try simp only [Act.put, nA, nB, nC])
                    refine wpAnyM_take 4 (v := ?_) rfl (by kernel_rfl) (fun _ _ _ h => h) (Or.inl ⟨by rfl, ?_⟩) (by assumption) ?_
                    rotate_left
                    · (intro wx hSw; (try dsimp only at hSw); go_simp; (try with_reducible rfl))
                    (try simp only [Act.put, nA, nB, nC])
                    refine wpAnyM_take 5 (v := ?_) rfl (by kernel_rfl) (fun _ _ _ h => h) (Or.inl ⟨by rfl, ?_⟩) (by assumption) ?_
                    rotate_left
                    · (intro wx hSw; (try dsimp only at hSw); go_simp; (try with_reducible rfl))
                    (try simp only [Act.put, nA, nB, nC])
                    refine wpAnyM_take 6 (v := ?_) rfl (by kernel_rfl) (fun _ _ _ h => h) (Or.inl ⟨by rfl, ?_⟩) (by assumption) ?_
                    rotate_left
                    · (intro wx hSw; (try dsimp only at hSw); go_simp; (try with_reducible rfl))
                    (try simp only [Act.put, nA, nB, nC])
                    refine wpAnyM_take 7 (v := ?_) rfl (by kernel_rfl) (fun _ _ _ h => h) (Or.inl ⟨by rfl, ?_⟩) (by assumption) ?_
                    rotate_left
                    · (intro wx hSw; (try dsimp only at hSw); go_simp; (try with_reducible rfl))
                    (try simp only [Act.put, nA, nB, nC])
                    refine wpAnyM_takeW 9 (v := ?_) rfl (by kernel_rfl) (fun _ _ _ h => h) (Or.inl ⟨by rfl, ?_⟩) (.inr (by assumption)) ?_
                    rotate_left
                    · (intro wx hSw; (try dsimp only at hSw); go_simp; (try with_reducible rfl))
                    (try simp only [Act.put, nA, nB, nC])
                    refine wpAnyM_oneS 8 rfl (by kernel_rfl) (fun K hK => ?_)
                    go_simp
                    (refine DT.out.mono ?_); rintro e w1 ⟨rfl, hu⟩; have d0 := (hu.cell (World.block_lt_of_cell? _ _ c0) hs0).trans c0; have d1 := (hu.cell (World.block_lt_of_cell? _ _ c1) hs1).trans c1; have MT := Lib.hid (MS.out.upd' hu); clear hu MS DT; have MS := MT; clear MT; have of := MS.out.v.o.free (k * 4 + (1 + i)); have oc := MS.out.v.o.cell (i := k * 4 + (1 + i)) (by omega)
                    (try dsimp only)
                    (try simp only [Act.put, nA, nB, nC])
                    clear hHeld
                    refine hK.out _ _ ?_ (fun hHeld => ?_)
                    · exact ⟨d0, d1⟩
                    clear hK K
                    (try simp only [Act.put, nA, nB, nC])
                    refine wpAnyM_take 10 (v := ?_) rfl (by kernel_rfl) (fun _ _ _ h => h) (Or.inl ⟨by rfl, ?_⟩) (by assumption) ?_
                    rotate_left
                    · (intro wx hSw; (try dsimp only at hSw); go_simp; (try with_reducible rfl))
                    (try simp only [Act.put, nA, nB, nC])
                    refine wpAnyM_one 11 rfl (by kernel_rfl) (fun K hK => ?_)
                    go_simp
                    refine hK.out _ _ (.inl (by kernel_rfl)) (fun _ => ?_)
                    clear hK K
                    (try simp only [Act.put, nA, nB, nC])
                    refine wpAnyM_done (by kernel_rfl) ?_ _
                    go_wp2_with fail
                    go_roundw
                    case rel =>
                      refine ⟨i + 1, by omega, by go_num, Lib.hid ((MS.out.v.setO (k * 4 + (1 + i)) y).congr ?_ fun x _ => ?_)⟩
                      · rw [← HZ.out.2, ← HG.out.1]; simp [orB, tnI, Bool.or_assoc]
                      · rw [← HG.out.2, ← HZ.out.1]; exact tnK_next Q A k hi3 x
                    case measure => simp [intOf]; omega
              · have e1 : ((k : Int) == (i : Int)) = false := by simp; omega
                have E1 := Lib.hid e1
                clear e1
                have HKI := Lib.hid hki
                clear hki
                go_upto_region 26 with fail
                refine wp_region_lit ?_
                refine wpList_val (v := ?_) rfl ?_ ?_
                rotate_left
                · (go_simp; (try (first | with_reducible rfl | (constructor <;> with_reducible rfl))))
                (try simp only [Act.put, nA, nB, nC])
                refine wpList_val (v := ?_) rfl ?_ ?_
                rotate_left
                · (go_simp; rw [E1.out])
                (try simp only [Act.put, nA, nB, nC])
                refine wpList_val (v := ?_) rfl ?_ ?_
                rotate_left
                · (go_simp; (try (first | with_reducible rfl | (constructor <;> with_reducible rfl))))
                (try simp only [Act.put, nA, nB, nC])
                refine wpList_nil ?_
                have hki := HKI.out
                obtain ⟨z, hz⟩ : ∃ m, (i + 1) % 3 = m := ⟨_, rfl⟩
                have z1 : ((i : Int) + 1).tmod 3 = (z : Int) := by rw [← hz]; rcases (show i = 0 ∨ i = 1 ∨ i = 2 by omega) with rfl | rfl | rfl <;> rfl
                have z2 : IntKind.i64.wrap ((i : Int) + 1) = (i : Int) + 1 := IntWalk.i64_in _ (by omega)
                by_cases hkz : k = z
                · have e2 : ((k : Int) == (z : Int)) = true := by simp; omega
                  have hkz' : k = (i + 1) % 3 := by omega
                  clear hkz hz
                  have HKZ := Lib.hid (And.intro hki hkz')
                  clear hki hkz'
                  have E2 := Lib.hid e2
                  clear e2
                  go_upto_region 32 with fail
                  refine wp_region_lit ?_
                  refine wpList_val (v := ?_) rfl ?_ ?_
                  rotate_left
                  · (go_simp; (try (first | with_reducible rfl | (constructor <;> with_reducible rfl))))
                  (try simp only [Act.put, nA, nB, nC])
                  refine wpList_val (v := ?_) rfl ?_ ?_
                  rotate_left
                  · (go_simp; (try (first | with_reducible rfl | (constructor <;> with_reducible rfl))))
                  (try simp only [Act.put, nA, nB, nC])
                  refine wpList_val (v := ?_) rfl ?_ ?_
                  rotate_left
                  · (go_simp; (try with_reducible rfl))
                  (try simp only [Act.put, nA, nB, nC])
                  refine wpList_val (v := ?_) rfl ?_ ?_
                  rotate_left
                  · (go_simp; rw [E2.out])
                  (try simp only [Act.put, nA, nB, nC])
                  refine wpList_val (v := ?_) rfl ?_ ?_
                  rotate_left
                  · (go_simp; (try (first | with_reducible rfl | (constructor <;> with_reducible rfl))))
                  (try simp only [Act.put, nA, nB, nC])
                  refine wpList_nil ?_
                  have hki := HKZ.out.1
                  have hkz' := HKZ.out.2
                  obtain ⟨m, hm⟩ : ∃ m, (i + 2) % 3 = m := ⟨_, rfl⟩
                  have m1 : ((i : Int) + 2).tmod 3 = (m : Int) := by rw [← hm]; rcases (show i = 0 ∨ i = 1 ∨ i = 2 by omega) with rfl | rfl | rfl <;> rfl
                  have m2 : IntKind.i64.wrap ((i : Int) + 2) = (i : Int) + 2 := IntWalk.i64_in _ (by omega)
                  have m0 : (0 : Int) ≤ (m : Int) := Int.natCast_nonneg _
                  have m3 : (m : Int) < 3 := by omega
                  have m4 : m < 3 := by omega
                  obtain ⟨q0, hq0⟩ : ∃ x, Q 0 = x := ⟨_, rfl⟩
                  obtain ⟨am, ham⟩ : ∃ x, A m = x := ⟨_, rfl⟩
                  have HX := Lib.hid (And.intro (show ap2 (s2A Q k i) 4 (-q0) = suA Q k i by unfold suA; rw [if_neg hki, if_pos hkz', hq0]) (show ap2 (s2B A k i) 4 am = suB A k i by unfold suB; rw [if_neg hki, if_pos hkz', hm, ham]))
                  have HN := Lib.hid (show 6 = suN k i by unfold suN; rw [if_neg hki])
                  have ng : IntKind.i64.wrap (-q0) = -q0 := sneg (by rw [← hq0]; exact HSQ.out _)
                  have K0 := Lib.hid hq0
                  have Lm := Lib.hid ham
                  clear hq0 ham hm hki hkz'
                  go_upto_region 33 with fail
                  have MT := Lib.hid MS.out.drew
                  clear MS
                  have MS := MT
                  clear MT
                  refine wp_region_M (fun w' => w'.cell? ⟨w.heap.size, 0, none⟩ = some (.int .i64 q0) ∧ w'.cell? ⟨w.heap.size + 1, m, none⟩ = some (.int .i64 am)) 8 (by kernel_rfl) ?_ (fun hHeld => ?_)
                  · exact ⟨by rw [← K0.out]; exact MS.out.v.t.q.cell (by decide), by rw [← Lm.out]; exact MS.out.v.t.a.cell (by omega)⟩
                  refine wpAnyM_takeX [1, 2, 8] 0 (v := ?_) rfl (by kernel_rfl) (fun _ _ _ h => h) (Or.inl ⟨by rfl, ?_⟩) (by assumption) ?_
                  rotate_left
                  · (intro wx hSw; (try dsimp only at hSw); go_simp; (try with_reducible rfl))
                  (try simp only [Act.put, nA, nB, nC])
                  refine wpAnyM_takeX [2, 8] 1 (v := ?_) rfl (by kernel_rfl) (fun _ _ _ h => h) (Or.inl ⟨by rfl, ?_⟩) (by assumption) ?_
                  rotate_left
                  · (intro wx hSw; (try dsimp only at hSw); go_simp; (try with_reducible rfl))
                  (try simp only [Act.put, nA, nB, nC])
                  refine wpAnyM_take 2 (v := ?_) rfl (by kernel_rfl) (fun _ _ _ h => h) (Or.inl ⟨by rfl, ?_⟩) (by assumption) ?_
                  rotate_left
                  · (intro wx hSw; (try dsimp only at hSw); go_simp; (try rw [ng]); (try with_reducible rfl))
                  (try simp only [Act.put, nA, nB, nC])
                  refine wpAnyM_takeX [4, 5, 6, 7, 8] 3 (v := ?_) rfl (by kernel_rfl) (fun _ _ _ h => h) (Or.inl ⟨by rfl, ?_⟩) (by assumption) ?_
                  rotate_left
                  · (intro wx hSw; (try dsimp only at hSw); go_simp; (try with_reducible rfl))
                  (try simp only [Act.put, nA, nB, nC])
                  refine wpAnyM_takeX [5, 6, 7, 8] 4 (v := ?_) rfl (by kernel_rfl) (fun _ _ _ h => h) (Or.inl ⟨by rfl, ?_⟩) (by assumption) ?_
                  rotate_left
                  · (intro wx hSw; (try dsimp only at hSw); go_simp; (try with_reducible rfl))
                  (try simp only [Act.put, nA, nB, nC])
                  refine wpAnyM_takeX [6, 7, 8] 5 (v := ?_) rfl (by kernel_rfl) (fun _ _ _ h => h) (Or.inl ⟨by rfl, ?_⟩) (by assumption) ?_
                  rotate_left
                  · (intro wx hSw; (try dsimp only at hSw); go_simp; (try with_reducible rfl))
                  (try simp only [Act.put, nA, nB, nC])
                  refine wpAnyM_takeX [7, 8] 6 (v := ?_) rfl (by kernel_rfl) (fun _ _ _ h => h) (Or.inl ⟨by rfl, ?_⟩) (by assumption) ?_
                  rotate_left
                  · (intro wx hSw; (try dsimp only at hSw); go_simp; (try with_reducible rfl))
                  (try simp only [Act.put, nA, nB, nC])
                  refine wpAnyM_take 7 (v := ?_) rfl (by kernel_rfl) (fun _ _ _ h => h) (Or.inl ⟨by rfl, ?_⟩) (by assumption) ?_
                  rotate_left
                  · (intro wx hSw; (try dsimp only at hSw); go_simp; (try with_reducible rfl))
                  (try simp only [Act.put, nA, nB, nC])
                  refine wpAnyM_one 8 rfl (by kernel_rfl) (fun K hK => ?_)
                  go_simp
                  (refine (jadd_any sb 4 _ _ (-q0) am _ MS.out.m (by omega)).mono ?_); rintro e w1 ⟨⟨v1, rfl⟩, hm, hb⟩; have MT := Lib.hid (MS.out.add hm hb); clear hm hb MS; have MS := MT; clear MT
                  (try dsimp only)
                  (try simp only [Act.put, nA, nB, nC])
                  refine hK.out _ _ (.inl (by kernel_rfl)) (fun _ => ?_)
                  clear hK K
                  (try simp only [Act.put, nA, nB, nC])
                  refine wpAnyM_done (by kernel_rfl) ?_ _
                  rw [show (4 + 2 : Nat) = 6 from rfl] at MS
                  go_upto_region 34 with fail
                  have MT := Lib.hid MS.out.drew
                  clear MS
                  have MS := MT
                  clear MT
                  have hs0 := MS.out.ne 0
                  have hs1 := MS.out.ne 1
                  obtain ⟨va, vb, c0, c1, DT⟩ := sum_dot c H5 MS.out.m (by decide) (by decide) MS.out.v.t.cell MS.out.v.t.free
                  rw [show dotV 30 _ _ 6 = dotV 30 (suA Q k i) (suB A k i) (suN k i) from by rw [HX.out.1, HX.out.2, HN.out], show dotH 30 _ _ 6 = dotH 30 (suA Q k i) (suB A k i) (suN k i) from by rw [HX.out.1, HX.out.2, HN.out]] at DT
                  obtain ⟨y, hy⟩ : ∃ y, dotV 30 (suA Q k i) (suB A k i) (suN k i) = y := ⟨_, rfl⟩
                  obtain ⟨H6, hH6⟩ : ∃ x, (H5 || dotH 30 (suA Q k i) (suB A k i) (suN k i)) = x := ⟨_, rfl⟩
                  rw [hy, hH6] at DT
                  have DT := Lib.hid DT
                  have HZ := Lib.hid (And.intro hy hH6)
                  clear hy hH6
                  refine wp_region_M (fun w' => w'.cell? ⟨sb, 0, none⟩ = some va ∧ w'.cell? ⟨sb, 1, none⟩ = some vb) 11 (by kernel_rfl) ?_ (fun hHeld => ?_)
                  · exact ⟨c0, c1⟩
                  refine wpAnyM_take 0 (v := ?_) rfl (by kernel_rfl) (fun _ _ _ h => h) (Or.inl ⟨by rfl, ?_⟩) (by assumption) ?_
                  rotate_left
                  · (intro wx hSw; (try dsimp only at hSw); go_simp; (try with_reducible rfl))
                  (try simp only [Act.put, nA, nB, nC])
                  refine wpAnyM_take 1 (v := ?_) rfl (by kernel_rfl) (fun _ _ _ h => h) (Or.inl ⟨by rfl, ?_⟩) (by assumption) ?_
                  rotate_left
                  · (intro wx hSw; (try dsimp only at hSw); go_simp; (try with_reducible rfl))
                  (try simp only [Act.put, nA, nB, nC])
                  refine wpAnyM_take 2 (v := ?_) rfl (by kernel_rfl) (fun _ _ _ h => h) (Or.inl ⟨by rfl, ?_⟩) (by assumption) ?_
                  rotate_left
                  · (intro wx hSw; (try dsimp only at hSw); go_simp; (try with_reducible rfl))
                  (try simp only [Act.put, nA, nB, nC])
                  refine wpAnyM_take 3 (v := ?_) rfl (by kernel_rfl) (fun _ _ _ h => h) (Or.inl ⟨by rfl, ?_⟩) (by assumption) ?_
                  rotate_left
                  · (intro wx hSw; (try dsimp only at hSw); go_simp; (try with_reducible rfl))
                  (try simp only [Act.put, nA, nB, nC])
                  refine wpAnyM_take 4 (v := ?_) rfl (by kernel_rfl) (fun _ _ _ h => h) (Or.inl ⟨by rfl, ?_⟩) (by assumption) ?_
                  rotate_left
                  · (intro wx hSw; (try dsimp only at hSw); go_simp; (try with_reducible rfl))
                  (try simp only [Act.put, nA, nB, nC])
                  refine wpAnyM_take 5 (v := ?_) rfl (by kernel_rfl) (fun _ _ _ h => h) (Or.inl ⟨by rfl, ?_⟩) (by assumption) ?_
                  rotate_left
                  · (intro wx hSw; (try dsimp only at hSw); go_simp; (try with_reducible rfl))
                  (try simp only [Act.put, nA, nB, nC])
                  refine wpAnyM_take 6 (v := ?_) rfl (by kernel_rfl) (fun _ _ _ h => h) (Or.inl ⟨by rfl, ?_⟩) (by assumption) ?_
                  rotate_left
                  · (intro wx hSw; (try dsimp only at hSw); go_simp; (try with_reducible rfl))
                  (try simp only [Act.put, nA, nB, nC])
                  refine wpAnyM_take 7 (v := ?_) rfl (by kernel_rfl) (fun _ _ _ h => h) (Or.inl ⟨by rfl, ?_⟩) (by assumption) ?_
                  rotate_left
                  · (intro wx hSw; (try dsimp only at hSw); go_simp; (try with_reducible rfl))
                  (try simp only [Act.put, nA, nB, nC])
                  refine wpAnyM_takeW 9 (v := ?_) rfl (by kernel_rfl) (fun _ _ _ h => h) (Or.inl ⟨by rfl, ?_⟩) (.inr (by assumption)) ?_
                  rotate_left
                  · (intro wx hSw; (try dsimp only at hSw); go_simp; (try with_reducible rfl))
                  (try simp only [Act.put, nA, nB, nC])
                  refine wpAnyM_oneS 8 rfl (by kernel_rfl) (fun K hK => ?_)
                  go_simp
                  (refine DT.out.mono ?_); rintro e w1 ⟨rfl, hu⟩; have d0 := (hu.cell (World.block_lt_of_cell? _ _ c0) hs0).trans c0; have d1 := (hu.cell (World.block_lt_of_cell? _ _ c1) hs1).trans c1; have MT := Lib.hid (MS.out.upd' hu); clear hu MS DT; have MS := MT; clear MT; have of := MS.out.v.o.free (k * 4 + (1 + i)); have oc := MS.out.v.o.cell (i := k * 4 + (1 + i)) (by omega)
                  (try dsimp only)
                  (try simp only [Act.put, nA, nB, nC])
                  clear hHeld
                  refine hK.out _ _ ?_ (fun hHeld => ?_)
                  · exact ⟨d0, d1⟩
                  clear hK K
                  (try simp only [Act.put, nA, nB, nC])
                  refine wpAnyM_take 10 (v := ?_) rfl (by kernel_rfl) (fun _ _ _ h => h) (Or.inl ⟨by rfl, ?_⟩) (by assumption) ?_
                  rotate_left
                  · (intro wx hSw; (try dsimp only at hSw); go_simp; (try with_reducible rfl))
                  (try simp only [Act.put, nA, nB, nC])
                  refine wpAnyM_one 11 rfl (by kernel_rfl) (fun K hK => ?_)
                  go_simp
                  refine hK.out _ _ (.inl (by kernel_rfl)) (fun _ => ?_)
                  clear hK K
                  (try simp only [Act.put, nA, nB, nC])
                  refine wpAnyM_done (by kernel_rfl) ?_ _
                  go_wp2_with fail
                  go_roundw
                  case rel =>
                    refine ⟨i + 1, by omega, by go_num, Lib.hid ((MS.out.v.setO (k * 4 + (1 + i)) y).congr ?_ fun x _ => ?_)⟩
                    · rw [← HZ.out.2, ← HG.out.1]; simp [orB, tnI, Bool.or_assoc]
                    · rw [← HG.out.2, ← HZ.out.1]; exact tnK_next Q A k hi3 x
                  case measure => simp [intOf]; omega
                · have e2 : ((k : Int) == (z : Int)) = false := by simp; omega
                  have hkz' : ¬ k = (i + 1) % 3 := by omega
                  have HMZ := Lib.hid hz
                  clear hkz hz
                  have HKZ := Lib.hid (And.intro hki hkz')
                  clear hki hkz'
                  have E2 := Lib.hid e2
                  clear e2
                  go_upto_region 32 with fail
                  refine wp_region_lit ?_
                  refine wpList_val (v := ?_) rfl ?_ ?_
                  rotate_left
                  · (go_simp; (try (first | with_reducible rfl | (constructor <;> with_reducible rfl))))
                  (try simp only [Act.put, nA, nB, nC])
                  refine wpList_val (v := ?_) rfl ?_ ?_
                  rotate_left
                  · (go_simp; (try (first | with_reducible rfl | (constructor <;> with_reducible rfl))))
                  (try simp only [Act.put, nA, nB, nC])
                  refine wpList_val (v := ?_) rfl ?_ ?_
                  rotate_left
                  · (go_simp; (try with_reducible rfl))
                  (try simp only [Act.put, nA, nB, nC])
                  refine wpList_val (v := ?_) rfl ?_ ?_
                  rotate_left
                  · (go_simp; rw [E2.out])
                  (try simp only [Act.put, nA, nB, nC])
                  refine wpList_val (v := ?_) rfl ?_ ?_
                  rotate_left
                  · (go_simp; (try (first | with_reducible rfl | (constructor <;> with_reducible rfl))))
                  (try simp only [Act.put, nA, nB, nC])
                  refine wpList_nil ?_
                  have hki := HKZ.out.1
                  have hkz' := HKZ.out.2
                  have hm := HMZ.out
                  have m0 : (0 : Int) ≤ (z : Int) := Int.natCast_nonneg _
                  have m3 : (z : Int) < 3 := by omega
                  have m4 : z < 3 := by omega
                  obtain ⟨q0, hq0⟩ : ∃ x, Q 0 = x := ⟨_, rfl⟩
                  obtain ⟨am, ham⟩ : ∃ x, A z = x := ⟨_, rfl⟩
                  have HX := Lib.hid (And.intro (show ap2 (s2A Q k i) 4 q0 = suA Q k i by unfold suA; rw [if_neg hki, if_neg hkz', hq0]) (show ap2 (s2B A k i) 4 am = suB A k i by unfold suB; rw [if_neg hki, if_neg hkz', hm, ham]))
                  have HN := Lib.hid (show 6 = suN k i by unfold suN; rw [if_neg hki])
                  have K0 := Lib.hid hq0
                  have Lm := Lib.hid ham
                  clear hq0 ham hm hki hkz'
                  go_upto_region 25 with fail
                  have MT := Lib.hid MS.out.drew
                  clear MS
                  have MS := MT
                  clear MT
                  refine wp_region_M (fun w' => w'.cell? ⟨w.heap.size, 0, none⟩ = some (.int .i64 q0) ∧ w'.cell? ⟨w.heap.size + 1, z, none⟩ = some (.int .i64 am)) 7 (by kernel_rfl) ?_ (fun hHeld => ?_)
                  · exact ⟨by rw [← K0.out]; exact MS.out.v.t.q.cell (by decide), by rw [← Lm.out]; exact MS.out.v.t.a.cell (by omega)⟩
                  refine wpAnyM_takeW 0 (v := ?_) rfl (by kernel_rfl) (fun _ _ _ h => h) (Or.inl ⟨by rfl, ?_⟩) (.inr (by assumption)) ?_
                  rotate_left
                  · (intro wx hSw; (try dsimp only at hSw); go_simp; (try with_reducible rfl))
                  (try simp only [Act.put, nA, nB, nC])
                  refine wpAnyM_take 1 (v := ?_) rfl (by kernel_rfl) (fun _ _ _ h => h) (Or.inl ⟨by rfl, ?_⟩) (by assumption) ?_
                  rotate_left
                  · (intro wx hSw; (try dsimp only at hSw); go_simp; (try with_reducible rfl))
                  (try simp only [Act.put, nA, nB, nC])
                  refine wpAnyM_takeW 2 (v := ?_) rfl (by kernel_rfl) (fun _ _ _ h => h) (Or.inl ⟨by rfl, ?_⟩) (.inr (by assumption)) ?_
                  rotate_left
                  · (intro wx hSw; (try dsimp only at hSw); go_simp; (try with_reducible rfl))
                  (try simp only [Act.put, nA, nB, nC])
                  refine wpAnyM_takeW 3 (v := ?_) rfl (by kernel_rfl) (fun _ _ _ h => h) (Or.inl ⟨by rfl, ?_⟩) (.inr (by assumption)) ?_
                  rotate_left
                  · (intro wx hSw; (try dsimp only at hSw); go_simp; (try with_reducible rfl))
                  (try simp only [Act.put, nA, nB, nC])
                  refine wpAnyM_takeW 4 (v := ?_) rfl (by kernel_rfl) (fun _ _ _ h => h) (Or.inl ⟨by rfl, ?_⟩) (.inr (by assumption)) ?_
                  rotate_left
                  · (intro wx hSw; (try dsimp only at hSw); go_simp; (try with_reducible rfl))
                  (try simp only [Act.put, nA, nB, nC])
                  refine wpAnyM_takeW 5 (v := ?_) rfl (by kernel_rfl) (fun _ _ _ h => h) (Or.inl ⟨by rfl, ?_⟩) (.inr (by assumption)) ?_
                  rotate_left
                  · (intro wx hSw; (try dsimp only at hSw); go_simp; (try with_reducible rfl))
                  (try simp only [Act.put, nA, nB, nC])
                  refine wpAnyM_take 6 (v := ?_) rfl (by kernel_rfl) (fun _ _ _ h => h) (Or.inl ⟨by rfl, ?_⟩) (by assumption) ?_
                  rotate_left
                  · (intro wx hSw; (try dsimp only at hSw); go_simp; (try with_reducible rfl))
                  (try simp only [Act.put, nA, nB, nC])
                  refine wpAnyM_one 7 rfl (by kernel_rfl) (fun K hK => ?_)
                  go_simp
                  (refine (jadd_any sb 4 _ _ q0 am _ MS.out.m (by omega)).mono ?_); rintro e w1 ⟨⟨v1, rfl⟩, hm, hb⟩; have MT := Lib.hid (MS.out.add hm hb); clear hm hb MS; have MS := MT; clear MT
                  (try dsimp only)
                  (try simp only [Act.put, nA, nB, nC])
                  refine hK.out _ _ (.inl (by kernel_rfl)) (fun _ => ?_)
                  clear hK K
                  (try simp only [Act.put, nA, nB, nC])
                  refine wpAnyM_done (by kernel_rfl) ?_ _
                  rw [show (4 + 2 : Nat) = 6 from rfl] at MS
                  go_upto_region 34 with fail
                  have MT := Lib.hid MS.out.drew
                  clear MS
                  have MS := MT
                  clear MT
                  have hs0 := MS.out.ne 0
                  have hs1 := MS.out.ne 1
                  obtain ⟨va, vb, c0, c1, DT⟩ := sum_dot c H5 MS.out.m (by decide) (by decide) MS.out.v.t.cell MS.out.v.t.free
                  rw [show dotV 30 _ _ 6 = dotV 30 (suA Q k i) (suB A k i) (suN k i) from by rw [HX.out.1, HX.out.2, HN.out], show dotH 30 _ _ 6 = dotH 30 (suA Q k i) (suB A k i) (suN k i) from by rw [HX.out.1, HX.out.2, HN.out]] at DT
                  obtain ⟨y, hy⟩ : ∃ y, dotV 30 (suA Q k i) (suB A k i) (suN k i) = y := ⟨_, rfl⟩
                  obtain ⟨H6, hH6⟩ : ∃ x, (H5 || dotH 30 (suA Q k i) (suB A k i) (suN k i)) = x := ⟨_, rfl⟩
                  rw [hy, hH6] at DT
                  have DT := Lib.hid DT
                  have HZ := Lib.hid (And.intro hy hH6)
                  clear hy hH6
                  refine wp_region_M (fun w' => w'.cell? ⟨sb, 0, none⟩ = some va ∧ w'.cell? ⟨sb, 1, none⟩ = some vb) 11 (by kernel_rfl) ?_ (fun hHeld => ?_)
                  · exact ⟨c0, c1⟩
                  refine wpAnyM_take 0 (v := ?_) rfl (by kernel_rfl) (fun _ _ _ h => h) (Or.inl ⟨by rfl, ?_⟩) (by assumption) ?_
                  rotate_left
                  · (intro wx hSw; (try dsimp only at hSw); go_simp; (try with_reducible rfl))
                  (try simp only [Act.put, nA, nB, nC])
                  refine wpAnyM_take 1 (v := ?_) rfl (by kernel_rfl) (fun _ _ _ h => h) (Or.inl ⟨by rfl, ?_⟩) (by assumption) ?_
                  rotate_left
                  · (intro wx hSw; (try dsimp only at hSw); go_simp; (try with_reducible rfl))
                  (try simp only [Act.put, nA, nB, nC])
                  refine wpAnyM_take 2 (v := ?_) rfl (by kernel_rfl) (fun _ _ _ h => h) (Or.inl ⟨by rfl, ?_⟩) (by assumption) ?_
                  rotate_left
                  · (intro wx hSw; (try dsimp only at hSw); go_simp; (try with_reducible rfl))
                  (try simp only [Act.put, nA, nB, nC])
                  refine wpAnyM_take 3 (v := ?_) rfl (by kernel_rfl) (fun _ _ _ h => h) (Or.inl ⟨by rfl, ?_⟩) (by assumption) ?_
                  rotate_left
                  · (intro wx hSw; (try dsimp only at hSw); go_simp; (try with_reducible rfl))
                  (try simp only [Act.put, nA, nB, nC])
                  refine wpAnyM_take 4 (v := ?_) rfl (by kernel_rfl) (fun _ _ _ h => h) (Or.inl ⟨by rfl, ?_⟩) (by assumption) ?_
                  rotate_left
                  · (intro wx hSw; (try dsimp only at hSw); go_simp; (try with_reducible rfl))
                  (try simp only [Act.put, nA, nB, nC])
                  refine wpAnyM_take 5 (v := ?_) rfl (by kernel_rfl) (fun _ _ _ h => h) (Or.inl ⟨by rfl, ?_⟩) (by assumption) ?_
                  rotate_left
                  · (intro wx hSw; (try dsimp only at hSw); go_simp; (try with_reducible rfl))
                  (try simp only [Act.put, nA, nB, nC])
                  refine wpAnyM_take 6 (v := ?_) rfl (by kernel_rfl) (fun _ _ _ h => h) (Or.inl ⟨by rfl, ?_⟩) (by assumption) ?_
                  rotate_left
                  · (intro wx hSw; (try dsimp only at hSw); go_simp; (try with_reducible rfl))
                  (try simp only [Act.put, nA, nB, nC])
                  refine wpAnyM_take 7 (v := ?_) rfl (by kernel_rfl) (fun _ _ _ h => h) (Or.inl ⟨by rfl, ?_⟩) (by assumption) ?_
                  rotate_left
                  · (intro wx hSw; (try dsimp only at hSw); go_simp; (try with_reducible rfl))
                  (try simp only [Act.put, nA, nB, nC])
                  refine wpAnyM_takeW 9 (v := ?_) rfl (by kernel_rfl) (fun _ _ _ h => h) (Or.inl ⟨by rfl, ?_⟩) (.inr (by assumption)) ?_
                  rotate_left
                  · (intro wx hSw; (try dsimp only at hSw); go_simp; (try with_reducible rfl))
                  (try simp only [Act.put, nA, nB, nC])
                  refine wpAnyM_oneS 8 rfl (by kernel_rfl) (fun K hK => ?_)
                  go_simp
                  (refine DT.out.mono ?_); rintro e w1 ⟨rfl, hu⟩; have d0 := (hu.cell (World.block_lt_of_cell? _ _ c0) hs0).trans c0; have d1 := (hu.cell (World.block_lt_of_cell? _ _ c1) hs1).trans c1; have MT := Lib.hid (MS.out.upd' hu); clear hu MS DT; have MS := MT; clear MT; have of := MS.out.v.o.free (k * 4 + (1 + i)); have oc := MS.out.v.o.cell (i := k * 4 + (1 + i)) (by omega)
                  (try dsimp only)
                  (try simp only [Act.put, nA, nB, nC])
                  clear hHeld
                  refine hK.out _ _ ?_ (fun hHeld => ?_)
                  · exact ⟨d0, d1⟩
                  clear hK K
                  (try simp only [Act.put, nA, nB, nC])
                  refine wpAnyM_take 10 (v := ?_) rfl (by kernel_rfl) (fun _ _ _ h => h) (Or.inl ⟨by rfl, ?_⟩) (by assumption) ?_
                  rotate_left
                  · (intro wx hSw; (try dsimp only at hSw); go_simp; (try with_reducible rfl))
                  (try simp only [Act.put, nA, nB, nC])
                  refine wpAnyM_one 11 rfl (by kernel_rfl) (fun K hK => ?_)
                  go_simp
                  refine hK.out _ _ (.inl (by kernel_rfl)) (fun _ => ?_)
                  clear hK K
                  (try simp only [Act.put, nA, nB, nC])
                  refine wpAnyM_done (by kernel_rfl) ?_ _
                  go_wp2_with fail
                  go_roundw
                  case rel =>
                    refine ⟨i + 1, by omega, by go_num, Lib.hid ((MS.out.v.setO (k * 4 + (1 + i)) y).congr ?_ fun x _ => ?_)⟩
                    · rw [← HZ.out.2, ← HG.out.1]; simp [orB, tnI, Bool.or_assoc]
                    · rw [← HG.out.2, ← HZ.out.1]; exact tnK_next Q A k hi3 x
                  case measure => simp [intOf]; omega
            · have hi4 : i = 3 := by omega
              subst hi4
              rw [show ((3 : Nat) : Int) = 3 from rfl]
              have R6 := Lib.hid R.out
              clear R hi hi3
              go_wp2_with fail
              go_roundw
              case rel =>
                refine ⟨k + 1, by omega, by go_num, Lib.hid (R6.out.congr ?_ fun x _ => tnK_row Q A k x)⟩
                rw [← HY.out.2, ← HH3.out.1]; simp [orB, tnB, Bool.or_assoc]
              case measure => simp [intOf]; omega
        · have hk3 : k = 3 := by omega
          subst hk3
          rw [show ((3 : Nat) : Int) = 3 from rfl]
          have R7 := Lib.hid R.out
          clear R hk hlt
          have O7 := R7.out.o
          have P7 := R7.out.t.r
          go_upto_region 37 with fail
          refine wp_region_lit ?_
          refine wpList_val (v := ?_) rfl ?_ ?_
          rotate_left
          · (refine Eq.trans (run_load_row 47 (.tmp 9) (by rfl) ob (by rfl) _ _ _ _ O7 Try.underlying47 rfl (it34.trans (by rw [arrv_size]))) ?_; with_reducible rfl)
          (try simp only [Act.put, nA, nB, nC])
          refine wpList_done (w' := ?_) rfl ?_ ?_
          rotate_left
          · (refine Eq.trans (run_store_row 47 (.tmp 6) (.tmp 141) (by rfl) (w.heap.size + 1 + 1) (by rfl) (by rfl) P7 (it34.trans rfl)) ?_; with_reducible rfl)
          (try simp only [Act.put, nA, nB, nC])
          refine wpList_nil ?_
          have r1 := P7.setRow (tnK Q A 3 0)
          have U1 := R7.out.t.upd.then' (below_row (Below.refl _ _) (show w.heap.size ≤ w.heap.size + 1 + 1 by omega) (arrv 12 (tnK Q A 3 0)))
          rw [← HF.out.2] at U1
          generalize wr.setRow (w.heap.size + 1 + 1) (arrv 12 (tnK Q A 3 0)) = W9 at *
          go_wp2_with fail
          refine bodyPost_ret (results_cell_row Try.results16 _ _ (w.heap.size + 1 + 1) 47 (arrv 12 (tnK Q A 3 0)) (0, 0) _ rfl r1 Try.underlying47 rfl (it34.trans (by rw [arrv_size]))) rfl ⟨?_, U1⟩
          rw [HF.out.1, arrv_congr (g := tnF Q A) fun x hx => ?_]
          unfold tnK
          rw [if_pos (by omega)]
end Go.Proofs.Ytanmddenleffaaa
