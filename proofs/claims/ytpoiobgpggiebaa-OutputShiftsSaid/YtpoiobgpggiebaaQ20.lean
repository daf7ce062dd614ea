/- Contracts of the program's functions and plain laws, part 20: they hold for all arguments. -/
import Derived.Test.YtpoiobgpggiebaaQ19
import Derived.Test.YtpoiobgpggiebaaQ18
/- output.Correct by the last output that is not behind the time. -/
namespace Go.Proofs.Ytpoiobgpggiebaa
open Go.RowKit
open Go
set_option maxRecDepth 100000
/-- The turn back is told by its shorter way. -/
def sgQ (R : Nat → Int) (k : Nat) : Nat → Int := fun i => if 1 ≤ i ∧ i < k ∧ R 0 < 0 then -(R i) else R i
def tuQ (g : Int) (R : Nat → Int) (k : Nat) : Nat → Int := fun i => if i = 0 then 1073741824 else if i < k then mulV g (if R 0 < 0 then -(R i) else R i) 30 else 0
def tuQH (g : Int) (R : Nat → Int) (k : Nat) : Bool := orB (fun i => mulH g (if R 0 < 0 then -(R (1 + i)) else R (1 + i)) 30) (k - 1)
def crD (E O : Nat → Int) (o : Nat) : Nat → Int := fun i => subV (E (o + i)) (O (o + i))
def crDH (E O : Nat → Int) (o : Nat) : Bool := orB (fun i => subH (E (o + i)) (O (o + i))) 3
def crR (E O : Nat → Int) : Nat → Int := qmV (fun i => E (1 + i)) (conjV (fun i => O (1 + i)))
def crRH (E O : Nat → Int) : Bool := qmH (fun i => E (1 + i)) (conjV (fun i => O (1 + i)))
/-- What Correct makes of an output X, by the output O and the estimate's own E. -/
def crF (g : Int) (E O : Nat → Int) : (Nat → Int) → Nat → Int := coF g (crD E O 5) (crD E O 8) (uniV (tuQ g (crR E O) 4))
def crFH (g : Int) (E O : Nat → Int) : (Nat → Int) → Bool := coH g (crD E O 5) (crD E O 8) (uniV (tuQ g (crR E O) 4))
def crH (g : Int) (S : Nat → Int) (t : Int) (O : Nat → Int) : Bool :=
  keepH S || crDH (ofF S t) O 5 || crDH (ofF S t) O 8 || crRH (ofF S t) O || tuQH g (crR (ofF S t) O) 4 || uniH (tuQ g (crR (ofF S t) O) 4)
theorem run_store_i64 {ev : Operand → Value} {o' : Oper} {w : World} (x y : Operand) (ho : o'.op = .store 2 x y) (b i : Nat) (hx : ev x = .pointer (some ⟨b, i, none⟩)) {T n : Nat} {f : Nat → Int} (hg : Blk w b T n f) (hi : i < n) {a : Int} (hy : ev y = .int .i64 a) :
    (execOp ev o').run Try.prog w = .ok .skip (w.setCell ⟨b, i, none⟩ (.int .i64 a)) := by
  have hc := hg.cell hi
  have hf := hg.free i
  unfold execOp
  simp only [ho, hx, hy]
  simp [go_sem, Instr.storeAt, Instr.sureAddr, hc, hf]
theorem run_build_qOne {o : Oper} {ev : Operand → Value} {w : World} (ho : o.op = .build 42 #[(0, .const (.int .i64 1073741824))]) (hev : ev (.const (.int .i64 1073741824)) = .int .i64 1073741824) :
    (execOp ev o).run Try.prog w = .ok (.value (.agg (arrv 4 oneQ))) w := by
  unfold execOp
  simp only [ho, List.map_toArray, List.map_cons, List.map_nil, hev]
  kernel_rfl
theorem sgQ_0 (R : Nat → Int) : sgQ R 1 = R := by
  funext i; unfold sgQ; rw [if_neg (by omega)]
theorem sgQ_at (R : Nat → Int) (k : Nat) : sgQ R k k = R k := by unfold sgQ; rw [if_neg (by omega)]
theorem sgQ_z (R : Nat → Int) (k : Nat) : sgQ R k 0 = R 0 := by unfold sgQ; rw [if_neg (by omega)]
theorem sgQ_neg {R : Nat → Int} {k : Nat} (hk : 1 ≤ k) (h : R 0 < 0) : Go.Proofs.Ytpoiobgpggiebaa.upd (sgQ R k) k (-(R k)) = sgQ R (k + 1) := by
  funext i
  unfold Go.Proofs.Ytpoiobgpggiebaa.upd sgQ
  by_cases e : i = k
  · subst e; rw [if_pos rfl, if_pos ⟨hk, by omega, h⟩]
  · rw [if_neg e]
    by_cases q : 1 ≤ i ∧ i < k ∧ R 0 < 0
    · rw [if_pos q, if_pos ⟨q.1, by omega, q.2.2⟩]
    · rw [if_neg q, if_neg (fun x => q ⟨x.1, by omega, x.2.2⟩)]
theorem sgQ_pos {R : Nat → Int} (k j : Nat) (h : ¬ R 0 < 0) : sgQ R k = sgQ R j := by
  funext i
  unfold sgQ
  rw [if_neg (fun x => h x.2.2), if_neg (fun x => h x.2.2)]
theorem tuQ_one (g : Int) (R : Nat → Int) : tuQ g R 1 = oneQ := by
  funext i
  unfold tuQ oneQ
  by_cases e : i = 0
  · rw [if_pos e, if_pos e]
  · rw [if_neg e, if_neg e, if_neg (by omega)]
theorem tuQ_succ (g : Int) (R : Nat → Int) {k : Nat} (hk : 1 ≤ k) : Go.Proofs.Ytpoiobgpggiebaa.upd (tuQ g R k) k (mulV g (if R 0 < 0 then -(R k) else R k) 30) = tuQ g R (k + 1) := by
  funext i
  unfold Go.Proofs.Ytpoiobgpggiebaa.upd tuQ
  by_cases e : i = k
  · subst e; simp [show i ≠ 0 by omega]
  · rw [if_neg e]
    by_cases e0 : i = 0
    · simp [e0]
    · by_cases q : i < k
      · simp [e0, q, show i < k + 1 by omega]
      · simp [e0, q, show ¬ i < k + 1 by omega]
theorem tuQH_succ (g : Int) (R : Nat → Int) {k : Nat} (hk : 1 ≤ k) : tuQH g R (k + 1) = (tuQH g R k || mulH g (if R 0 < 0 then -(R k) else R k) 30) := by
  obtain ⟨j, rfl⟩ : ∃ j, k = j + 1 := ⟨k - 1, by omega⟩
  unfold tuQH
  show orB _ (j + 1) = _
  simp only [orB, Nat.add_sub_cancel, Nat.add_comm 1 j]
theorem qmV_bd (A B : Nat → Int) (i : Nat) : -1152921504606846976 ≤ qmV A B i ∧ qmV A B i ≤ 1152921504606846976 := by
  unfold qmV dotV
  rw [if_neg (by decide)]
  unfold satV
  exact clampV_box _ _ (by decide)
section
variable {c : Addr} {h h' : Bool} {pb : Nat} {z g : Int} {v : Value} {n : Nat} {L : Nat → Nat → Int} {E : List Lx} {top : Nat} {w wr : World}
/-- Two blocks that were laid, and filled, are taken into the list. -/
theorem cr_two (s : CrR c h pb z g v n L E top w wr) {b1 b2 T1 T2 m1 m2 : Nat} {F1 F2 : Nat → Int} (h1 : Blk wr b1 T1 m1 F1) (h2 : Blk wr b2 T2 m2 F2) (t1 : top ≤ b1) (t2 : top ≤ b2) :
    CrR c h pb z g v n L (⟨b1, T1, m1, F1⟩ :: ⟨b2, T2, m2, F2⟩ :: E) wr.heap.size w wr := by
  have hl := s.ls.le
  have h1l := h1.lt
  have h2l := h2.lt
  have b := s.top' hl (Nat.le_refl _)
  refine ⟨⟨b.ls.upd, b.ls.cell, b.ls.free, b.ls.cb, fun e he => ?_, b.ls.lim, b.ls.le⟩, b.b0, b.b1, b.pd, b.big, fun e he => ?_, b.n1, b.n2, b.l1, b.l2⟩
  · have := s.ls.lim
    rcases List.mem_cons.1 he with rfl | he
    · exact ⟨h1, by simp only; omega, h1l⟩
    · rcases List.mem_cons.1 he with rfl | he
      · exact ⟨h2, by simp only; omega, h2l⟩
      · exact b.ls.ex e he
  · have := s.big
    rcases List.mem_cons.1 he with rfl | he
    · simp only; omega
    · rcases List.mem_cons.1 he with rfl | he
      · simp only; omega
      · exact s.eb e he
end
section
variable {c : Addr} {h h' : Bool} {pb : Nat} {z g : Int} {v : Value} {n : Nat} {L : Nat → Nat → Int} {E : List Lx} {top : Nat} {w wr : World}
theorem cr_one (s : CrR c h pb z g v n L E top w wr) {b1 T1 m1 : Nat} {F1 : Nat → Int} (h1 : Blk wr b1 T1 m1 F1) (t1 : top ≤ b1) : CrR c h pb z g v n L (⟨b1, T1, m1, F1⟩ :: E) wr.heap.size w wr := s.add h1 t1 h1.lt (Nat.le_refl _)
theorem cr_lay (s : CrR c h pb z g v n L E top w wr) (T m : Nat) (G F : Nat → Int) : CrR c h pb z g v n L (⟨wr.heap.size, T, m, F⟩ :: E) (wr.heap.size + 1) w ((wr.alloc (.cells (arrv m G) T)).setRow wr.heap.size (arrv m F)) := by
  have a := (s.alloc (.cells (arrv m G) T)).put s.ls.le (arrv m F)
  exact a.add ((Blk.new wr T m G).setRow F) s.ls.le (Nat.lt_succ_self _) (by rw [setRow_size]; simp)
/-- The second block's cell, the first block's cell. -/
theorem CrR.set1 {e0 : Lx} {b T m : Nat} {F : Nat → Int} (s : CrR c h pb z g v n L (e0 :: ⟨b, T, m, F⟩ :: E) top w wr) (h0 : e0.b ≠ b) (hn : ∀ e, e ∈ E → e.b ≠ b) (i : Nat) (x : Int) : CrR c h pb z g v n L (e0 :: ⟨b, T, m, Go.Proofs.Ytpoiobgpggiebaa.upd F i x⟩ :: E) top w (wr.setCell ⟨b, i, none⟩ (.int .i64 x)) :=
  ((s.sub (E' := ⟨b, T, m, F⟩ :: e0 :: E) (by intro e he; simp only [List.mem_cons] at he ⊢; rcases he with h | h | h; exact .inr (.inl h); exact .inl h; exact .inr (.inr h))).set (by intro e he; rcases List.mem_cons.1 he with rfl | he; exact h0; exact hn e he) i x).sub (by intro e he; simp only [List.mem_cons] at he ⊢; rcases he with h | h | h; exact .inr (.inl h); exact .inl h; exact .inr (.inr h))
end
section
variable {c : Addr} {h h' : Bool} {pb : Nat} {z g : Int} {v : Value} {n : Nat} {L : Nat → Nat → Int} {w wr : World}
theorem cr_round {H4 : Bool} {RR : Nat → Int} {j : Nat} {U : Int} {b6 T m top : Nat} {E : List Lx} (ts : Go.Proofs.Ytpoiobgpggiebaa.upd (tuQ g RR j) j (mulV g U 30) = tuQ g RR (j + 1)) (th : tuQH g RR (j + 1) = (tuQH g RR j || mulH g U 30)) (s : CrR c (H4 || tuQH g RR j || mulH g U 30) pb z g v n L (⟨b6, T, m, Go.Proofs.Ytpoiobgpggiebaa.upd (tuQ g RR j) j (mulV g U 30)⟩ :: E) top w wr) :
    CrR c (H4 || tuQH g RR (j + 1)) pb z g v n L (⟨b6, T, m, tuQ g RR (j + 1)⟩ :: E) top w wr := by
  rw [← ts, th, ← Bool.or_assoc]; exact s
theorem cr_coc {b6 b5 b3 b4 top : Nat} {TU R5 DV DP : Nat → Int} (s : CrR c h pb z g v n L [⟨b6, 42, 4, TU⟩, ⟨b5, 42, 4, R5⟩, ⟨b3, 43, 3, DV⟩, ⟨b4, 43, 3, DP⟩] top w wr) :
    CoC c (w.heap.size + 1) b3 w.heap.size b4 b6 pb g DV DP TU wr ∧ ∀ b, b ∈ [w.heap.size + 1, b3, w.heap.size, b4, b6, pb] → ¬ (b = c.block ∨ v.ownBlock = some b) := by
  have hc := s.ls.cb
  have hb := s.big
  have hl := s.ls.le
  have e3 := s.eb ⟨b3, 43, 3, DV⟩ (by simp)
  have e4 := s.eb ⟨b4, 43, 3, DP⟩ (by simp)
  have e6 := s.eb ⟨b6, 42, 4, TU⟩ (by simp)
  simp only at e3 e4 e6
  have l3 := s.ls.e2.lt
  have l4 := s.ls.e3.lt
  have l6 := s.ls.e0.lt
  have n1 := s.n1
  have l1 := s.l1
  refine ⟨⟨s.b1, s.ls.e2, s.b0, s.pd.c1, s.ls.e3, s.ls.e0, fun b hm => ?_⟩, fun b hm => ?_⟩
  · simp at hm
    rcases hm with rfl | rfl | rfl | rfl | rfl | rfl <;> exact ⟨by omega, by omega⟩
  · rintro (e | e)
    · simp at hm; rcases hm with rfl | rfl | rfl | rfl | rfl | rfl <;> omega
    · have := s.l2 b e
      simp at hm
      rcases hm with rfl | rfl | rfl | rfl | rfl | rfl
      · omega
      · omega
      · omega
      · omega
      · omega
      · exact s.pd.ne e
theorem cr_done {E : List Lx} {top : Nat} {L' : Nat → Nat → Int} {w7 : World} (s : CrR c h pb z g v n L E top w wr) (r : EaR c h' pb z g v n L' wr w7) : EaR c h' pb z g v n L' w w7 :=
  ⟨r.pd, r.cell, r.free, (Chg.upd (X := fun k => k = c.block ∨ v.ownBlock = some k) s.ls.upd (.inl rfl)).then r.chg (fun _ _ y => y)⟩
end
set_option maxHeartbeats 16000000 in
theorem corr_ok (c : Addr) (h : Bool) (pb : Nat) (z g : Int) (n : Nat) (L : Nat → Nat → Int) (v : Value) (S : Nat → Int) (t : Int) (w : World) (hc : w.cell? c = some (.bool h)) (hf : w.frozen? c = false) (hp : PdR w pb z g v n L) (hcp : c.block ≠ pb) (hvc : ∀ k, v.ownBlock = some k → k ≠ c.block) (hn : n ≤ 1000) (m : Nat) (hat : lastK L t n = (m : Int)) :
    Calls Try.prog 12 #[.pointer (some ⟨pb, 0, none⟩), .pointer (some c), .agg (arrv 24 S), .int .i64 t] w fun e w' => e = .returned (.int .i64 0) ∧ EaR c (h || crH g S t (L m) || orB (fun i => eaH (crF g (ofF S t) (L m)) (crFH g (ofF S t) (L m)) (L i)) n) pb z g v n (eaL (crF g (ofF S t) (L m)) L n) w w' := by
  obtain ⟨q, cp, rfl, hq⟩ : ∃ q cp, v = .slice q n cp ∧ (0 < n → ∃ gb, q = some ⟨gb, 0, none⟩) := by
    rcases hp.own.form with ⟨rfl, e⟩ | ⟨gb, cp, e, _⟩
    · exact ⟨none, 0, e, fun h => by omega⟩
    · exact ⟨_, cp, e, fun _ => ⟨gb, rfl⟩⟩
  have R0 := Lib.hid (cr_start S hc hf hp hcp hvc)
  have HQ := Lib.hid hq
  have HA := Lib.hid hat
  clear hc hf hp hcp hvc hq hat
  have hmk : m < n := by have := lastK_bd L t n; have := HA.out; omega
  obtain ⟨O, hO⟩ : ∃ x, L m = x := ⟨_, rfl⟩
  have CC := Lib.hid (fun (x : World) (gb : Nat) (p : PdR x pb z g (.slice (some ⟨gb, 0, none⟩) n cp) n L) => hO ▸ pd_cells p hmk)
  rw [hO]
  clear hO
  obtain ⟨E, hE⟩ : ∃ x, ofF S t = x := ⟨_, rfl⟩
  obtain ⟨H1, hH1⟩ : ∃ x, (h || keepH S) = x := ⟨_, rfl⟩
  obtain ⟨DV, hDV⟩ : ∃ x, crD E O 5 = x := ⟨_, rfl⟩
  obtain ⟨DP, hDP⟩ : ∃ x, crD E O 8 = x := ⟨_, rfl⟩
  obtain ⟨H2, hH2⟩ : ∃ x, (H1 || crDH E O 5) = x := ⟨_, rfl⟩
  obtain ⟨H3, hH3⟩ : ∃ x, (H2 || crDH E O 8) = x := ⟨_, rfl⟩
  obtain ⟨RR, hRR⟩ : ∃ x, crR E O = x := ⟨_, rfl⟩
  obtain ⟨H4, hH4⟩ : ∃ x, (H3 || crRH E O) = x := ⟨_, rfl⟩
  have rb := Lib.hid (fun i => (hRR ▸ qmV_bd _ _ i : -1152921504606846976 ≤ RR i ∧ RR i ≤ 1152921504606846976))
  have NE := Lib.hid (And.intro hE hH1)
  have NV := Lib.hid (show (fun i => subV (E (5 + i)) (O (5 + i))) = DV ∧ (H1 || orB (fun i => subH (E (5 + i)) (O (5 + i))) 3) = H2 from ⟨hDV, hH2⟩)
  have NP := Lib.hid (show (fun i => subV (E (8 + i)) (O (8 + i))) = DP ∧ (H2 || orB (fun i => subH (E (8 + i)) (O (8 + i))) 3) = H3 from ⟨hDP, hH3⟩)
  have NR := Lib.hid (show qmV (fun i => E (1 + i)) (conjV (fun i => O (1 + i))) = RR ∧ (H3 || qmH (fun i => E (1 + i)) (conjV (fun i => O (1 + i)))) = H4 from ⟨hRR, hH4⟩)
  have NF := Lib.hid (show (h || crH g S t O) = (H4 || tuQH g RR 4 || uniH (tuQ g RR 4)) ∧ crF g E O = coF g DV DP (uniV (tuQ g RR 4)) ∧ crFH g E O = coH g DV DP (uniV (tuQ g RR 4)) by
    refine ⟨?_, ?_, ?_⟩
    · unfold crH; rw [hE, ← hH4, ← hH3, ← hH2, ← hH1, hRR]; simp only [Bool.or_assoc]
    · unfold crF; rw [hDV, hDP, hRR]
    · unfold crFH; rw [hDV, hDP, hRR])
  rw [hE, NF.out.1, NF.out.2.1, NF.out.2.2]
  clear hE hH1 hDV hDP hH2 hH3 hRR hH4
  go_enter Try.func12, Try.ntmps12
  go_upto_region 1 with fail
  generalize ((w.alloc (.cells #[.pointer (some ⟨pb, 0, none⟩)] 23)).alloc (.cells #[.pointer (some c)] 27)).alloc (.cells (arrv 24 S) 32) = W0 at *
  have c2 := R0.out.pd.c2
  have q0 := R0.out.b0
  go_upto_region 3 with fail
  go_loopw [9, 24] (fun a i wr => ∃ (k : Nat) (A : Int), k ≤ n ∧ a = .int .i64 A ∧ A = lastK L t k ∧ i = .int .i64 k ∧ Hid (CrR c h pb z g (.slice q n cp) n L [⟨w.heap.size + 1 + 1, 32, 24, S⟩] (w.heap.size + 1 + 1 + 1) w wr)) (fun _ i _ => n - (intOf i).toNat)
  case atStart => exact ⟨0, -1, Nat.zero_le _, rfl, rfl, by go_num, R0⟩
  case round =>
    obtain ⟨k, A, hk, rfl, hA, rfl, R⟩ := hrel
    have k0 : (0 : Int) ≤ (k : Int) := Int.natCast_nonneg _
    clear c2 q0 R0
    by_cases hlt : k < n
    · obtain ⟨gb, rfl⟩ := HQ.out (by omega)
      have d1 : decide (k < n) = true := by simpa using hlt
      have d2 : decide ((k : Int) < (n : Int)) = true := by simpa using hlt
      have k1 : (k : Int) < (n : Int) := by omega
      have k3 : (n : Int) ≤ 1000 := by omega
      have C0 := Lib.hid (pd_cells R.out.pd hlt)
      have HK := Lib.hid (show lastK L t (k + 1) = if L k 0 ≤ t then (k : Int) else A by rw [hA]; rfl)
      clear hA
      obtain ⟨Ok, hO⟩ : ∃ x, L k = x := ⟨_, rfl⟩
      rw [hO] at C0 HK
      clear hO
      have N0 := Lib.hid (cr_copy R.out Ok)
      go_upto_region 4 with fail
      refine wp_region_lit ?_
      refine wpList_val (v := ?_) rfl ?_ ?_
      rotate_left
      · (go_simp; (try (first | with_reducible rfl | (constructor <;> with_reducible rfl))))
      (try simp only [Act.put, nA, nB, nC])
      refine wpList_val (v := ?_) rfl ?_ ?_
      rotate_left
      · (go_simp; (try (first | with_reducible rfl | (constructor <;> with_reducible rfl))))
      (try simp only [Act.put, nA, nB, nC])
      refine wpList_val (v := ?_) rfl ?_ ?_
      rotate_left
      · (refine Eq.trans (run_load_out (.tmp 27) (by rfl) gb (k * 11) (by rfl) Ok C0.out) ?_; with_reducible rfl)
      (try simp only [Act.put, nA, nB, nC])
      refine wpList_act (v := ?_) (w' := ?_) rfl ?_ ?_
      rotate_left 2
      · (go_simp; (try (first | with_reducible rfl | (constructor <;> with_reducible rfl))))
      (try simp only [Act.put, nA, nB, nC])
      refine wpList_val (v := ?_) rfl ?_ ?_
      rotate_left
      · (go_simp; (try (first | with_reducible rfl | (constructor <;> with_reducible rfl))))
      (try simp only [Act.put, nA, nB, nC])
      refine wpList_done (w' := ?_) rfl ?_ ?_
      rotate_left
      · (refine Eq.trans (run_store_row 49 (.tmp 11) (.tmp 28) (by rfl) (wr.heap.size) (by rfl) (by rfl) N0.out.2.1 (iou.trans rfl)) ?_; with_reducible rfl)
      (try simp only [Act.put, nA, nB, nC])
      refine wpList_nil ?_
      have R1 := Lib.hid N0.out.1
      have o0 := N0.out.2.2.cell (i := 0) (by decide)
      generalize (wr.alloc (.cells #[.int .i64 0, .int .i64 0, .int .i64 0, .int .i64 0, .int .i64 0, .int .i64 0, .int .i64 0, .int .i64 0, .int .i64 0, .int .i64 0, .int .i64 0] 49)).setRow wr.heap.size (arrv 11 Ok) = W1 at *
      clear N0 C0
      obtain ⟨y, hy⟩ : ∃ x, Ok 0 = x := ⟨_, rfl⟩
      rw [hy] at o0 HK
      clear hy
      by_cases hx : y ≤ t
      · have e1 : decide (y ≤ t) = true := by simpa using hx
        have HK2 := Lib.hid (HK.out.trans (if_pos hx))
        clear hx
        go_wp2_with fail
        go_roundw
        case rel => exact ⟨k + 1, _, by omega, rfl, HK2.out.symm, by go_num, R1⟩
        case measure => simp [intOf]; omega
      · have e1 : decide (y ≤ t) = false := by simpa using hx
        have HK2 := Lib.hid (HK.out.trans (if_neg hx))
        clear hx
        go_wp2_with fail
        go_roundw
        case rel => exact ⟨k + 1, _, by omega, rfl, HK2.out.symm, by go_num, R1⟩
        case measure => simp [intOf]; omega
    · obtain rfl : k = n := by omega
      rw [HA.out] at hA
      subst hA
      have m0 : (0 : Int) ≤ (m : Int) := Int.natCast_nonneg _
      have k1 : (m : Int) < (k : Int) := by omega
      have k3 : (k : Int) ≤ 1000 := by omega
      have d1 : decide (k < k) = false := by simp
      have d2 : decide ((k : Int) < (k : Int)) = false := by simp
      have d3 : decide ((m : Int) < 0) = false := by simp
      obtain ⟨gb, rfl⟩ := HQ.out (by omega)
      clear HA
      go_upto_region 10 with fail
      have HS := Lib.hid R.out.drew
      clear R d1 d2 d3
      (try simp only [Act.put])
      go_cut [12, 13] from 37 to 48 (fun s12 s13 wx => ∃ b1 b2, s12 = .pointer (some ⟨b1, 0, none⟩) ∧ s13 = .pointer (some ⟨b2, 0, none⟩) ∧ Hid (CrR c H1 pb z g (.slice (some ⟨gb, 0, none⟩) k cp) k L [⟨b1, 49, 11, O⟩, ⟨b2, 49, 11, E⟩, ⟨w.heap.size + 1 + 1, 32, 24, S⟩] wx.heap.size w wx))
      case first =>
        refine wp_region_M (fun w' => w'.cell? ⟨w.heap.size, 0, none⟩ = some (.pointer (some ⟨pb, 0, none⟩)) ∧ w'.cell? ⟨pb, 2, none⟩ = some (.slice (some ⟨gb, 0, none⟩) k cp) ∧ (∀ j, j < 11 → w'.cell? ⟨gb, m * 11 + j, none⟩ = some (.int .i64 (O j))) ∧ w'.cell? ⟨w.heap.size + 1, 0, none⟩ = some (.pointer (some c)) ∧ Blk w' (w.heap.size + 1 + 1) 32 24 S) 14 (by kernel_rfl) ?_ (fun hHeld => ?_)
        · exact ⟨HS.out.b0, HS.out.pd.c2, CC.out _ _ HS.out.pd, HS.out.b1, HS.out.ls.e0⟩
        obtain ⟨wx, hwx⟩ : ∃ x, wr.drew = x := ⟨_, rfl⟩; rw [hwx] at HS hHeld ⊢; clear hwx
        clear hHeld
        revert HS
        revert wx
        refine share (T := ?_) (fun SH4 => ?_) ?sp4
        rotate_left
        refine share (T := ?_) (fun SH3 => ?_) ?sp3
        rotate_left
        refine share (T := ?_) (fun SH2 => ?_) ?sp2
        rotate_left
        refine share (T := ?_) (fun SH1 => ?_) ?sp1
        rotate_left
        · intro wx  HS
          have hHeld : (((fun w' => w'.cell? ⟨w.heap.size, 0, none⟩ = some (.pointer (some ⟨pb, 0, none⟩)) ∧ w'.cell? ⟨pb, 2, none⟩ = some (.slice (some ⟨gb, 0, none⟩) k cp) ∧ (∀ j, j < 11 → w'.cell? ⟨gb, m * 11 + j, none⟩ = some (.int .i64 (O j))) ∧ w'.cell? ⟨w.heap.size + 1, 0, none⟩ = some (.pointer (some c)) ∧ Blk w' (w.heap.size + 1 + 1) 32 24 S)) wx) := by exact ⟨HS.out.b0, HS.out.pd.c2, CC.out _ _ HS.out.pd, HS.out.b1, HS.out.ls.e0⟩
          refine wpAnyM_take 0 (v := ?_) rfl (by kernel_rfl) (fun _ _ _ h => h) (Or.inl ⟨by rfl, ?_⟩) (by assumption) ?_
          rotate_left
          · (intro wz hSw; have q := hSw.1; go_simp; with_reducible rfl)
          (try simp only [Act.put, nA, nB, nC])
          refine wpAnyM_take 1 (v := ?_) rfl (by kernel_rfl) (fun _ _ _ h => h) (Or.inl ⟨by rfl, ?_⟩) (by assumption) ?_
          rotate_left
          · (intro wz hSw; (try dsimp only at hSw); go_simp; (try with_reducible rfl))
          (try simp only [Act.put, nA, nB, nC])
          refine wpAnyM_take 2 (v := ?_) rfl (by kernel_rfl) (fun _ _ _ h => h) (Or.inl ⟨by rfl, ?_⟩) (by assumption) ?_
          rotate_left
          · (intro wz hSw; (try dsimp only at hSw); go_simp; (try with_reducible rfl))
          (try simp only [Act.put, nA, nB, nC])
          refine wpAnyM_take 3 (v := ?_) rfl (by kernel_rfl) (fun _ _ _ h => h) (Or.inl ⟨by rfl, ?_⟩) (by assumption) ?_
          rotate_left
          · (intro wz hSw; have q := hSw.2.1; go_simp; with_reducible rfl)
          (try simp only [Act.put, nA, nB, nC])
          refine wpAnyM_take 4 (v := ?_) rfl (by kernel_rfl) (fun _ _ _ h => h) (Or.inl ⟨by rfl, ?_⟩) (by assumption) ?_
          rotate_left
          · (intro wz hSw; (try dsimp only at hSw); go_simp; (try with_reducible rfl))
          (try simp only [Act.put, nA, nB, nC])
          refine wpAnyM_take 5 (v := ?_) rfl (by kernel_rfl) (fun _ _ _ h => h) (Or.inl ⟨by rfl, ?_⟩) (by assumption) ?_
          rotate_left
          · (intro wz hSw; (try dsimp only at hSw); go_simp; (try with_reducible rfl))
          (try simp only [Act.put, nA, nB, nC])
          refine wpAnyM_take 6 (v := ?_) rfl (by kernel_rfl) (fun _ _ _ h => h) (Or.inl ⟨by rfl, ?_⟩) (by assumption) ?_
          rotate_left
          · (intro wz hSw; refine Eq.trans (run_load_out (.tmp 42) (by rfl) gb (m * 11) (by rfl) O hSw.2.2.1) ?_; with_reducible rfl)
          (try simp only [Act.put, nA, nB, nC])
          refine wpAnyM_take 7 (v := ?_) rfl (by kernel_rfl) (fun _ _ _ h => h) (Or.inl ⟨by rfl, ?_⟩) (by assumption) ?_
          rotate_left
          · (intro wz hSw; have q := hSw.2.2.2.1; go_simp; with_reducible rfl)
          (try simp only [Act.put, nA, nB, nC])
          refine wpAnyM_take 8 (v := ?_) rfl (by kernel_rfl) (fun _ _ _ h => h) (Or.inl ⟨by rfl, ?_⟩) (by assumption) ?_
          rotate_left
          · (intro wz hSw; refine Eq.trans (run_load_row 32 (.tmp 6) (by rfl) (w.heap.size + 1 + 1) (by rfl) _ _ _ _ (hSw.2.2.2.2) Try.underlying32 rfl (ist.trans (by rw [arrv_size]))) ?_; with_reducible rfl)
          (try simp only [Act.put, nA, nB, nC])
          refine wpAnyM_take 9 (v := ?_) rfl (by kernel_rfl) (fun _ _ _ h => h) (Or.inl ⟨by rfl, ?_⟩) (by assumption) ?_
          rotate_left
          · (intro wz hSw; (try dsimp only at hSw); go_simp; (try with_reducible rfl))
          (try simp only [Act.put, nA, nB, nC])
          clear hHeld
          refine wpAnyM_threeS 10 11 12 rfl rfl rfl (by kernel_rfl) (fun K hK => ?_) (fun K hK => ?_) (fun K hK => ?_)
          · go_simp
            (refine (outof_any c h S t _ HS.out.ls.cell HS.out.ls.free).mono ?_); (rw [NE.out.1, NE.out.2]); rintro e wn ⟨rfl, hu⟩; (try (have HA2 := Lib.hid (And.intro (HA.out.1.upd hu (by have := HA.out.2; have := HS.out.ls.cb; have := HS.out.big; omega)) HA.out.2); clear HA; have HA := HA2; clear HA2)); (try (have HB2 := Lib.hid (And.intro (HB.out.1.upd hu (by have := HB.out.2; have := HS.out.ls.cb; have := HS.out.big; omega)) HB.out.2); clear HB; have HB := HB2; clear HB2)); have HS2 := Lib.hid (HS.out.upd' hu); clear HS; have HS := HS2; clear HS2 hu
            (try dsimp only)
            (try simp only [Act.put, nA, nB, nC])
            refine hK.out _ _ ?_ (fun hHeld => ?_)
            · exact ⟨HS.out.b0, HS.out.pd.c2, CC.out _ _ HS.out.pd, HS.out.b1, HS.out.ls.e0⟩
            clear hK K
            (try simp only [Act.put, nA, nB, nC])
            clear hHeld
            revert HS
            revert wn
            intro wx  HS
            refine wpAnyM_twoS 11 12 rfl rfl (by kernel_rfl) (fun K hK => ?_) (fun K hK => ?_)
            · go_simp; obtain ⟨b1, hb⟩ : ∃ x, wx.heap.size = x := ⟨_, rfl⟩; have HA := Lib.hid (cr_new HS.out b1 hb); (try (have HN := Lib.hid (show b1 ≠ b2 by have := HB.out.1.lt; omega))); have hBB := (Below.refl wx.heap.size wx).alloc (Nat.le_refl _) (.cells #[.int .i64 0, .int .i64 0, .int .i64 0, .int .i64 0, .int .i64 0, .int .i64 0, .int .i64 0, .int .i64 0, .int .i64 0, .int .i64 0, .int .i64 0] 49); (try (have HB2 := Lib.hid (And.intro (HB.out.1.below hBB) HB.out.2); clear HB; have HB := HB2; clear HB2)); have HS2 := Lib.hid (HS.out.down hBB); clear HS; have HS := HS2; clear HS2 hBB; (rw [hb]); clear hb; generalize wx.alloc (.cells #[.int .i64 0, .int .i64 0, .int .i64 0, .int .i64 0, .int .i64 0, .int .i64 0, .int .i64 0, .int .i64 0, .int .i64 0, .int .i64 0, .int .i64 0] 49) = wn at *
              refine hK.out _ _ ?_ (fun hHeld => ?_)
              · exact ⟨HS.out.b0, HS.out.pd.c2, CC.out _ _ HS.out.pd, HS.out.b1, HS.out.ls.e0⟩
              clear hK K
              (try simp only [Act.put, nA, nB, nC])
              clear hHeld
              revert HA
              revert HS
              revert b1
              revert wn
              exact SH1.out
            · go_simp; obtain ⟨b2, hb⟩ : ∃ x, wx.heap.size = x := ⟨_, rfl⟩; have HB := Lib.hid (cr_new HS.out b2 hb); (try (have HN := Lib.hid (show b1 ≠ b2 by have := HA.out.1.lt; omega))); have hBB := (Below.refl wx.heap.size wx).alloc (Nat.le_refl _) (.cells #[.int .i64 0, .int .i64 0, .int .i64 0, .int .i64 0, .int .i64 0, .int .i64 0, .int .i64 0, .int .i64 0, .int .i64 0, .int .i64 0, .int .i64 0] 49); (try (have HA2 := Lib.hid (And.intro (HA.out.1.below hBB) HA.out.2); clear HA; have HA := HA2; clear HA2)); have HS2 := Lib.hid (HS.out.down hBB); clear HS; have HS := HS2; clear HS2 hBB; (rw [hb]); clear hb; generalize wx.alloc (.cells #[.int .i64 0, .int .i64 0, .int .i64 0, .int .i64 0, .int .i64 0, .int .i64 0, .int .i64 0, .int .i64 0, .int .i64 0, .int .i64 0, .int .i64 0] 49) = wn at *
              refine hK.out _ _ ?_ (fun hHeld => ?_)
              · exact ⟨HS.out.b0, HS.out.pd.c2, CC.out _ _ HS.out.pd, HS.out.b1, HS.out.ls.e0⟩
              clear hK K
              (try simp only [Act.put, nA, nB, nC])
              clear hHeld
              revert HB
              revert HS
              revert b2
              revert wn
              exact SH2.out
          · go_simp; obtain ⟨b1, hb⟩ : ∃ x, wx.heap.size = x := ⟨_, rfl⟩; have HA := Lib.hid (cr_new HS.out b1 hb); (try (have HN := Lib.hid (show b1 ≠ b2 by have := HB.out.1.lt; omega))); have hBB := (Below.refl wx.heap.size wx).alloc (Nat.le_refl _) (.cells #[.int .i64 0, .int .i64 0, .int .i64 0, .int .i64 0, .int .i64 0, .int .i64 0, .int .i64 0, .int .i64 0, .int .i64 0, .int .i64 0, .int .i64 0] 49); (try (have HB2 := Lib.hid (And.intro (HB.out.1.below hBB) HB.out.2); clear HB; have HB := HB2; clear HB2)); have HS2 := Lib.hid (HS.out.down hBB); clear HS; have HS := HS2; clear HS2 hBB; (rw [hb]); clear hb; generalize wx.alloc (.cells #[.int .i64 0, .int .i64 0, .int .i64 0, .int .i64 0, .int .i64 0, .int .i64 0, .int .i64 0, .int .i64 0, .int .i64 0, .int .i64 0, .int .i64 0] 49) = wn at *
            refine hK.out _ _ ?_ (fun hHeld => ?_)
            · exact ⟨HS.out.b0, HS.out.pd.c2, CC.out _ _ HS.out.pd, HS.out.b1, HS.out.ls.e0⟩
            clear hK K
            (try simp only [Act.put, nA, nB, nC])
            clear hHeld
            revert HA
            revert HS
            revert b1
            revert wn
            intro wx b1 HS HA
            refine wpAnyM_twoS 10 12 rfl rfl (by kernel_rfl) (fun K hK => ?_) (fun K hK => ?_)
            · go_simp
              (refine (outof_any c h S t _ HS.out.ls.cell HS.out.ls.free).mono ?_); (rw [NE.out.1, NE.out.2]); rintro e wn ⟨rfl, hu⟩; (try (have HA2 := Lib.hid (And.intro (HA.out.1.upd hu (by have := HA.out.2; have := HS.out.ls.cb; have := HS.out.big; omega)) HA.out.2); clear HA; have HA := HA2; clear HA2)); (try (have HB2 := Lib.hid (And.intro (HB.out.1.upd hu (by have := HB.out.2; have := HS.out.ls.cb; have := HS.out.big; omega)) HB.out.2); clear HB; have HB := HB2; clear HB2)); have HS2 := Lib.hid (HS.out.upd' hu); clear HS; have HS := HS2; clear HS2 hu
              (try dsimp only)
              (try simp only [Act.put, nA, nB, nC])
              refine hK.out _ _ ?_ (fun hHeld => ?_)
              · exact ⟨HS.out.b0, HS.out.pd.c2, CC.out _ _ HS.out.pd, HS.out.b1, HS.out.ls.e0⟩
              clear hK K
              (try simp only [Act.put, nA, nB, nC])
              exact SH1.out _ _ HS HA
            · go_simp; obtain ⟨b2, hb⟩ : ∃ x, wx.heap.size = x := ⟨_, rfl⟩; have HB := Lib.hid (cr_new HS.out b2 hb); (try (have HN := Lib.hid (show b1 ≠ b2 by have := HA.out.1.lt; omega))); have hBB := (Below.refl wx.heap.size wx).alloc (Nat.le_refl _) (.cells #[.int .i64 0, .int .i64 0, .int .i64 0, .int .i64 0, .int .i64 0, .int .i64 0, .int .i64 0, .int .i64 0, .int .i64 0, .int .i64 0, .int .i64 0] 49); (try (have HA2 := Lib.hid (And.intro (HA.out.1.below hBB) HA.out.2); clear HA; have HA := HA2; clear HA2)); have HS2 := Lib.hid (HS.out.down hBB); clear HS; have HS := HS2; clear HS2 hBB; (rw [hb]); clear hb; generalize wx.alloc (.cells #[.int .i64 0, .int .i64 0, .int .i64 0, .int .i64 0, .int .i64 0, .int .i64 0, .int .i64 0, .int .i64 0, .int .i64 0, .int .i64 0, .int .i64 0] 49) = wn at *
              refine hK.out _ _ ?_ (fun hHeld => ?_)
              · exact ⟨HS.out.b0, HS.out.pd.c2, CC.out _ _ HS.out.pd, HS.out.b1, HS.out.ls.e0⟩
              clear hK K
              (try simp only [Act.put, nA, nB, nC])
              clear hHeld
              revert HN
              revert HB
              revert HA
              revert HS
              revert b2
              revert b1
              revert wn
              exact SH3.out
          · go_simp; obtain ⟨b2, hb⟩ : ∃ x, wx.heap.size = x := ⟨_, rfl⟩; have HB := Lib.hid (cr_new HS.out b2 hb); (try (have HN := Lib.hid (show b1 ≠ b2 by have := HA.out.1.lt; omega))); have hBB := (Below.refl wx.heap.size wx).alloc (Nat.le_refl _) (.cells #[.int .i64 0, .int .i64 0, .int .i64 0, .int .i64 0, .int .i64 0, .int .i64 0, .int .i64 0, .int .i64 0, .int .i64 0, .int .i64 0, .int .i64 0] 49); (try (have HA2 := Lib.hid (And.intro (HA.out.1.below hBB) HA.out.2); clear HA; have HA := HA2; clear HA2)); have HS2 := Lib.hid (HS.out.down hBB); clear HS; have HS := HS2; clear HS2 hBB; (rw [hb]); clear hb; generalize wx.alloc (.cells #[.int .i64 0, .int .i64 0, .int .i64 0, .int .i64 0, .int .i64 0, .int .i64 0, .int .i64 0, .int .i64 0, .int .i64 0, .int .i64 0, .int .i64 0] 49) = wn at *
            refine hK.out _ _ ?_ (fun hHeld => ?_)
            · exact ⟨HS.out.b0, HS.out.pd.c2, CC.out _ _ HS.out.pd, HS.out.b1, HS.out.ls.e0⟩
            clear hK K
            (try simp only [Act.put, nA, nB, nC])
            clear hHeld
            revert HB
            revert HS
            revert b2
            revert wn
            intro wx b2 HS HB
            refine wpAnyM_twoS 10 11 rfl rfl (by kernel_rfl) (fun K hK => ?_) (fun K hK => ?_)
            · go_simp
              (refine (outof_any c h S t _ HS.out.ls.cell HS.out.ls.free).mono ?_); (rw [NE.out.1, NE.out.2]); rintro e wn ⟨rfl, hu⟩; (try (have HA2 := Lib.hid (And.intro (HA.out.1.upd hu (by have := HA.out.2; have := HS.out.ls.cb; have := HS.out.big; omega)) HA.out.2); clear HA; have HA := HA2; clear HA2)); (try (have HB2 := Lib.hid (And.intro (HB.out.1.upd hu (by have := HB.out.2; have := HS.out.ls.cb; have := HS.out.big; omega)) HB.out.2); clear HB; have HB := HB2; clear HB2)); have HS2 := Lib.hid (HS.out.upd' hu); clear HS; have HS := HS2; clear HS2 hu
              (try dsimp only)
              (try simp only [Act.put, nA, nB, nC])
              refine hK.out _ _ ?_ (fun hHeld => ?_)
              · exact ⟨HS.out.b0, HS.out.pd.c2, CC.out _ _ HS.out.pd, HS.out.b1, HS.out.ls.e0⟩
              clear hK K
              (try simp only [Act.put, nA, nB, nC])
              exact SH2.out _ _ HS HB
            · go_simp; obtain ⟨b1, hb⟩ : ∃ x, wx.heap.size = x := ⟨_, rfl⟩; have HA := Lib.hid (cr_new HS.out b1 hb); (try (have HN := Lib.hid (show b1 ≠ b2 by have := HB.out.1.lt; omega))); have hBB := (Below.refl wx.heap.size wx).alloc (Nat.le_refl _) (.cells #[.int .i64 0, .int .i64 0, .int .i64 0, .int .i64 0, .int .i64 0, .int .i64 0, .int .i64 0, .int .i64 0, .int .i64 0, .int .i64 0, .int .i64 0] 49); (try (have HB2 := Lib.hid (And.intro (HB.out.1.below hBB) HB.out.2); clear HB; have HB := HB2; clear HB2)); have HS2 := Lib.hid (HS.out.down hBB); clear HS; have HS := HS2; clear HS2 hBB; (rw [hb]); clear hb; generalize wx.alloc (.cells #[.int .i64 0, .int .i64 0, .int .i64 0, .int .i64 0, .int .i64 0, .int .i64 0, .int .i64 0, .int .i64 0, .int .i64 0, .int .i64 0, .int .i64 0] 49) = wn at *
              refine hK.out _ _ ?_ (fun hHeld => ?_)
              · exact ⟨HS.out.b0, HS.out.pd.c2, CC.out _ _ HS.out.pd, HS.out.b1, HS.out.ls.e0⟩
              clear hK K
              (try simp only [Act.put, nA, nB, nC])
              exact SH3.out _ _ _ HS HA HB HN
        case sp1 =>
          intro wx b1 HS HA
          refine wpAnyM_oneS 12 rfl (by kernel_rfl) (fun K hK => ?_)
          go_simp; obtain ⟨b2, hb⟩ : ∃ x, wx.heap.size = x := ⟨_, rfl⟩; have HB := Lib.hid (cr_new HS.out b2 hb); (try (have HN := Lib.hid (show b1 ≠ b2 by have := HA.out.1.lt; omega))); have hBB := (Below.refl wx.heap.size wx).alloc (Nat.le_refl _) (.cells #[.int .i64 0, .int .i64 0, .int .i64 0, .int .i64 0, .int .i64 0, .int .i64 0, .int .i64 0, .int .i64 0, .int .i64 0, .int .i64 0, .int .i64 0] 49); (try (have HA2 := Lib.hid (And.intro (HA.out.1.below hBB) HA.out.2); clear HA; have HA := HA2; clear HA2)); have HS2 := Lib.hid (HS.out.down hBB); clear HS; have HS := HS2; clear HS2 hBB; (rw [hb]); clear hb; generalize wx.alloc (.cells #[.int .i64 0, .int .i64 0, .int .i64 0, .int .i64 0, .int .i64 0, .int .i64 0, .int .i64 0, .int .i64 0, .int .i64 0, .int .i64 0, .int .i64 0] 49) = wn at *
          refine hK.out _ _ ?_ (fun hHeld => ?_)
          · exact ⟨HS.out.b0, HS.out.pd.c2, CC.out _ _ HS.out.pd, HS.out.b1, HS.out.ls.e0⟩
          clear hK K
          (try simp only [Act.put, nA, nB, nC])
          clear hHeld
          revert HN
          revert HB
          revert HA
          revert HS
          revert b2
          revert b1
          revert wn
          exact SH4.out
        case sp2 =>
          intro wx b2 HS HB
          refine wpAnyM_oneS 11 rfl (by kernel_rfl) (fun K hK => ?_)
          go_simp; obtain ⟨b1, hb⟩ : ∃ x, wx.heap.size = x := ⟨_, rfl⟩; have HA := Lib.hid (cr_new HS.out b1 hb); (try (have HN := Lib.hid (show b1 ≠ b2 by have := HB.out.1.lt; omega))); have hBB := (Below.refl wx.heap.size wx).alloc (Nat.le_refl _) (.cells #[.int .i64 0, .int .i64 0, .int .i64 0, .int .i64 0, .int .i64 0, .int .i64 0, .int .i64 0, .int .i64 0, .int .i64 0, .int .i64 0, .int .i64 0] 49); (try (have HB2 := Lib.hid (And.intro (HB.out.1.below hBB) HB.out.2); clear HB; have HB := HB2; clear HB2)); have HS2 := Lib.hid (HS.out.down hBB); clear HS; have HS := HS2; clear HS2 hBB; (rw [hb]); clear hb; generalize wx.alloc (.cells #[.int .i64 0, .int .i64 0, .int .i64 0, .int .i64 0, .int .i64 0, .int .i64 0, .int .i64 0, .int .i64 0, .int .i64 0, .int .i64 0, .int .i64 0] 49) = wn at *
          refine hK.out _ _ ?_ (fun hHeld => ?_)
          · exact ⟨HS.out.b0, HS.out.pd.c2, CC.out _ _ HS.out.pd, HS.out.b1, HS.out.ls.e0⟩
          clear hK K
          (try simp only [Act.put, nA, nB, nC])
          exact SH4.out _ _ _ HS HA HB HN
        case sp3 =>
          intro wx b1 b2 HS HA HB HN
          refine wpAnyM_oneS 10 rfl (by kernel_rfl) (fun K hK => ?_)
          go_simp
          (refine (outof_any c h S t _ HS.out.ls.cell HS.out.ls.free).mono ?_); (rw [NE.out.1, NE.out.2]); rintro e wn ⟨rfl, hu⟩; (try (have HA2 := Lib.hid (And.intro (HA.out.1.upd hu (by have := HA.out.2; have := HS.out.ls.cb; have := HS.out.big; omega)) HA.out.2); clear HA; have HA := HA2; clear HA2)); (try (have HB2 := Lib.hid (And.intro (HB.out.1.upd hu (by have := HB.out.2; have := HS.out.ls.cb; have := HS.out.big; omega)) HB.out.2); clear HB; have HB := HB2; clear HB2)); have HS2 := Lib.hid (HS.out.upd' hu); clear HS; have HS := HS2; clear HS2 hu
          (try dsimp only)
          (try simp only [Act.put, nA, nB, nC])
          refine hK.out _ _ ?_ (fun hHeld => ?_)
          · exact ⟨HS.out.b0, HS.out.pd.c2, CC.out _ _ HS.out.pd, HS.out.b1, HS.out.ls.e0⟩
          clear hK K
          (try simp only [Act.put, nA, nB, nC])
          exact SH4.out _ _ _ HS HA HB HN
        case sp4 =>
          intro wx b1 b2 HS HA HB HN
          have hHeld : (((fun w' => w'.cell? ⟨w.heap.size, 0, none⟩ = some (.pointer (some ⟨pb, 0, none⟩)) ∧ w'.cell? ⟨pb, 2, none⟩ = some (.slice (some ⟨gb, 0, none⟩) k cp) ∧ (∀ j, j < 11 → w'.cell? ⟨gb, m * 11 + j, none⟩ = some (.int .i64 (O j))) ∧ w'.cell? ⟨w.heap.size + 1, 0, none⟩ = some (.pointer (some c)) ∧ Blk w' (w.heap.size + 1 + 1) 32 24 S)) wx) := by exact ⟨HS.out.b0, HS.out.pd.c2, CC.out _ _ HS.out.pd, HS.out.b1, HS.out.ls.e0⟩
          have HE := Lib.hid (HA.out.1.setRow O); have HB2 := Lib.hid (HB.out.1.setRow_other (arrv 11 O) (fun e => HN.out e.symm)); have HS2 := Lib.hid (HS.out.put HA.out.2 (arrv 11 O)); clear HS; have HS := HS2; clear HS2
          clear hHeld
          refine wpAnyM_doneS 13 rfl (by kernel_rfl) (by rfl) (run_store_row 49 (.tmp 12) (.tmp 43) rfl _ rfl rfl HA.out.1 (iou.trans rfl)) ?_ (fun hHeld => ?_)
          · exact ⟨HS.out.b0, HS.out.pd.c2, CC.out _ _ HS.out.pd, HS.out.b1, HS.out.ls.e0⟩
          (try simp only [Act.put])
          refine wpAnyM_doneL 14 rfl (by kernel_rfl) (by rfl) (by kernel_rfl) (run_store_row 49 (.tmp 13) (.tmp 47) rfl _ rfl rfl HB2.out (iou.trans rfl)) ?_
          (try simp only [Act.put, nA, nB, nC])
          refine wpAnyM_done (by kernel_rfl) ?_ _
          (have HZ := Lib.hid (cr_two (HS.out.put HB.out.2 (arrv 11 E)) (HE.out.setRow_other (arrv 11 E) HN.out) (HB2.out.setRow E) HA.out.2 HB.out.2); go_wp2_with fail; go_meet; exact ⟨_, _, rfl, rfl, HZ⟩)
      case rest =>
      obtain ⟨b1, b2, rfl, rfl, HB⟩ := hcut
      clear HS
      go_upto_region 11 with fail
      have HS := Lib.hid HB.out.drew
      clear HB
      (try simp only [Act.put])
      obtain ⟨top, htop⟩ : ∃ x, wc.heap.size = x := ⟨_, rfl⟩
      rw [htop] at HS
      clear htop
      go_cut [14, 15] from 48 to 60 (fun s14 s15 wx => ∃ b3 b4, s14 = .pointer (some ⟨b3, 0, none⟩) ∧ s15 = .pointer (some ⟨b4, 0, none⟩) ∧ b3 ≠ b4 ∧ Hid (CrR c H3 pb z g (.slice (some ⟨gb, 0, none⟩) k cp) k L [⟨b3, 43, 3, DV⟩, ⟨b4, 43, 3, DP⟩, ⟨b1, 49, 11, O⟩, ⟨b2, 49, 11, E⟩] wx.heap.size w wx))
      case first =>
        refine wp_region_M (fun w' => w'.cell? ⟨w.heap.size + 1, 0, none⟩ = some (.pointer (some c)) ∧ Blk w' b1 49 11 O ∧ Blk w' b2 49 11 E) 15 (by kernel_rfl) ?_ (fun hHeld => ?_)
        · exact ⟨HS.out.b1, HS.out.ls.e0, HS.out.ls.e1⟩
        obtain ⟨wx, hwx⟩ : ∃ x, wc.drew = x := ⟨_, rfl⟩; rw [hwx] at HS hHeld ⊢; clear hwx
        clear hHeld
        revert HS
        revert wx
        refine share (T := ?_) (fun SH7 => ?_) ?sp7
        rotate_left
        refine share (T := ?_) (fun SH6 => ?_) ?sp6
        rotate_left
        refine share (T := ?_) (fun SH5 => ?_) ?sp5
        rotate_left
        refine share (T := ?_) (fun SH4 => ?_) ?sp4
        rotate_left
        refine share (T := ?_) (fun SH3 => ?_) ?sp3
        rotate_left
        refine share (T := ?_) (fun SH2 => ?_) ?sp2
        rotate_left
        refine share (T := ?_) (fun SH1 => ?_) ?sp1
        rotate_left
        · intro wx  HS
          have hHeld : (((fun w' => w'.cell? ⟨w.heap.size + 1, 0, none⟩ = some (.pointer (some c)) ∧ Blk w' b1 49 11 O ∧ Blk w' b2 49 11 E)) wx) := by exact ⟨HS.out.b1, HS.out.ls.e0, HS.out.ls.e1⟩
          refine wpAnyM_take 0 (v := ?_) rfl (by kernel_rfl) (fun _ _ _ h => h) (Or.inl ⟨by rfl, ?_⟩) (by assumption) ?_
          rotate_left
          · (intro wz hSw; have q := hSw.1; go_simp; with_reducible rfl)
          (try simp only [Act.put, nA, nB, nC])
          refine wpAnyM_take 1 (v := ?_) rfl (by kernel_rfl) (fun _ _ _ h => h) (Or.inl ⟨by rfl, ?_⟩) (by assumption) ?_
          rotate_left
          · (intro wz hSw; (try dsimp only at hSw); go_simp; (try with_reducible rfl))
          (try simp only [Act.put, nA, nB, nC])
          refine wpAnyM_take 2 (v := ?_) rfl (by kernel_rfl) (fun _ _ _ h => h) (Or.inl ⟨by rfl, ?_⟩) (by assumption) ?_
          rotate_left
          · (intro wz hSw; refine Eq.trans (run_load_sub 43 (.tmp 49) (by rfl) b2 5 3 (by rfl) hSw.2.2 (by decide) _ Try.underlying43 rfl iv3) ?_; with_reducible rfl)
          (try simp only [Act.put, nA, nB, nC])
          refine wpAnyM_take 3 (v := ?_) rfl (by kernel_rfl) (fun _ _ _ h => h) (Or.inl ⟨by rfl, ?_⟩) (by assumption) ?_
          rotate_left
          · (intro wz hSw; (try dsimp only at hSw); go_simp; (try with_reducible rfl))
          (try simp only [Act.put, nA, nB, nC])
          refine wpAnyM_take 4 (v := ?_) rfl (by kernel_rfl) (fun _ _ _ h => h) (Or.inl ⟨by rfl, ?_⟩) (by assumption) ?_
          rotate_left
          · (intro wz hSw; refine Eq.trans (run_load_sub 43 (.tmp 51) (by rfl) b1 5 3 (by rfl) hSw.2.1 (by decide) _ Try.underlying43 rfl iv3) ?_; with_reducible rfl)
          (try simp only [Act.put, nA, nB, nC])
          refine wpAnyM_take 6 (v := ?_) rfl (by kernel_rfl) (fun _ _ _ h => h) (Or.inl ⟨by rfl, ?_⟩) (by assumption) ?_
          rotate_left
          · (intro wz hSw; have q := hSw.1; go_simp; with_reducible rfl)
          (try simp only [Act.put, nA, nB, nC])
          refine wpAnyM_take 7 (v := ?_) rfl (by kernel_rfl) (fun _ _ _ h => h) (Or.inl ⟨by rfl, ?_⟩) (by assumption) ?_
          rotate_left
          · (intro wz hSw; (try dsimp only at hSw); go_simp; (try with_reducible rfl))
          (try simp only [Act.put, nA, nB, nC])
          refine wpAnyM_take 8 (v := ?_) rfl (by kernel_rfl) (fun _ _ _ h => h) (Or.inl ⟨by rfl, ?_⟩) (by assumption) ?_
          rotate_left
          · (intro wz hSw; refine Eq.trans (run_load_sub 43 (.tmp 55) (by rfl) b2 8 3 (by rfl) hSw.2.2 (by decide) _ Try.underlying43 rfl iv3) ?_; with_reducible rfl)
          (try simp only [Act.put, nA, nB, nC])
          refine wpAnyM_take 9 (v := ?_) rfl (by kernel_rfl) (fun _ _ _ h => h) (Or.inl ⟨by rfl, ?_⟩) (by assumption) ?_
          rotate_left
          · (intro wz hSw; (try dsimp only at hSw); go_simp; (try with_reducible rfl))
          (try simp only [Act.put, nA, nB, nC])
          refine wpAnyM_take 10 (v := ?_) rfl (by kernel_rfl) (fun _ _ _ h => h) (Or.inl ⟨by rfl, ?_⟩) (by assumption) ?_
          rotate_left
          · (intro wz hSw; refine Eq.trans (run_load_sub 43 (.tmp 57) (by rfl) b1 8 3 (by rfl) hSw.2.1 (by decide) _ Try.underlying43 rfl iv3) ?_; with_reducible rfl)
          (try simp only [Act.put, nA, nB, nC])
          clear hHeld
          refine wpAnyM_threeS 5 12 13 rfl rfl rfl (by kernel_rfl) (fun K hK => ?_) (fun K hK => ?_) (fun K hK => ?_)
          · go_simp
            (refine (vsub_any c H1 (fun i => E (5 + i)) (fun i => O (5 + i)) _ HS.out.ls.cell HS.out.ls.free).mono ?_); (rw [NV.out.1, NV.out.2]); rintro e wn ⟨rfl, hu⟩; (try (have HA2 := Lib.hid (And.intro (HA.out.1.upd hu (by have := HA.out.2; have := HS.out.ls.cb; have := HS.out.big; omega)) HA.out.2); clear HA; have HA := HA2; clear HA2)); (try (have HB2 := Lib.hid (And.intro (HB.out.1.upd hu (by have := HB.out.2; have := HS.out.ls.cb; have := HS.out.big; omega)) HB.out.2); clear HB; have HB := HB2; clear HB2)); have HS2 := Lib.hid (HS.out.upd' hu); clear HS; have HS := HS2; clear HS2 hu
            (try dsimp only)
            (try simp only [Act.put, nA, nB, nC])
            refine hK.out _ _ ?_ (fun hHeld => ?_)
            · exact ⟨HS.out.b1, HS.out.ls.e0, HS.out.ls.e1⟩
            clear hK K
            (try simp only [Act.put, nA, nB, nC])
            clear hHeld
            revert HS
            revert wn
            intro wx  HS
            refine wpAnyM_threeS 11 12 13 rfl rfl rfl (by kernel_rfl) (fun K hK => ?_) (fun K hK => ?_) (fun K hK => ?_)
            · go_simp
              (refine (vsub_any c H2 (fun i => E (8 + i)) (fun i => O (8 + i)) _ HS.out.ls.cell HS.out.ls.free).mono ?_); (rw [NP.out.1, NP.out.2]); rintro e wn ⟨rfl, hu⟩; (try (have HA2 := Lib.hid (And.intro (HA.out.1.upd hu (by have := HA.out.2; have := HS.out.ls.cb; have := HS.out.big; omega)) HA.out.2); clear HA; have HA := HA2; clear HA2)); (try (have HB2 := Lib.hid (And.intro (HB.out.1.upd hu (by have := HB.out.2; have := HS.out.ls.cb; have := HS.out.big; omega)) HB.out.2); clear HB; have HB := HB2; clear HB2)); have HS2 := Lib.hid (HS.out.upd' hu); clear HS; have HS := HS2; clear HS2 hu
              (try dsimp only)
              (try simp only [Act.put, nA, nB, nC])
              refine hK.out _ _ ?_ (fun hHeld => ?_)
              · exact ⟨HS.out.b1, HS.out.ls.e0, HS.out.ls.e1⟩
              clear hK K
              (try simp only [Act.put, nA, nB, nC])
              clear hHeld
              revert HS
              revert wn
              intro wx  HS
              refine wpAnyM_twoS 12 13 rfl rfl (by kernel_rfl) (fun K hK => ?_) (fun K hK => ?_)
              · go_simp; obtain ⟨b3, hb⟩ : ∃ x, wx.heap.size = x := ⟨_, rfl⟩; have HA := Lib.hid (cr_newv HS.out b3 hb); (try (have HN := Lib.hid (show b3 ≠ b4 by have := HB.out.1.lt; omega))); have hBB := (Below.refl wx.heap.size wx).alloc (Nat.le_refl _) (.cells #[.int .i64 0, .int .i64 0, .int .i64 0] 43); (try (have HB2 := Lib.hid (And.intro (HB.out.1.below hBB) HB.out.2); clear HB; have HB := HB2; clear HB2)); have HS2 := Lib.hid (HS.out.down hBB); clear HS; have HS := HS2; clear HS2 hBB; (rw [hb]); clear hb; generalize wx.alloc (.cells #[.int .i64 0, .int .i64 0, .int .i64 0] 43) = wn at *
                refine hK.out _ _ ?_ (fun hHeld => ?_)
                · exact ⟨HS.out.b1, HS.out.ls.e0, HS.out.ls.e1⟩
                clear hK K
                (try simp only [Act.put, nA, nB, nC])
                clear hHeld
                revert HA
                revert HS
                revert b3
                revert wn
                exact SH4.out
              · go_simp; obtain ⟨b4, hb⟩ : ∃ x, wx.heap.size = x := ⟨_, rfl⟩; have HB := Lib.hid (cr_newv HS.out b4 hb); (try (have HN := Lib.hid (show b3 ≠ b4 by have := HA.out.1.lt; omega))); have hBB := (Below.refl wx.heap.size wx).alloc (Nat.le_refl _) (.cells #[.int .i64 0, .int .i64 0, .int .i64 0] 43); (try (have HA2 := Lib.hid (And.intro (HA.out.1.below hBB) HA.out.2); clear HA; have HA := HA2; clear HA2)); have HS2 := Lib.hid (HS.out.down hBB); clear HS; have HS := HS2; clear HS2 hBB; (rw [hb]); clear hb; generalize wx.alloc (.cells #[.int .i64 0, .int .i64 0, .int .i64 0] 43) = wn at *
                refine hK.out _ _ ?_ (fun hHeld => ?_)
                · exact ⟨HS.out.b1, HS.out.ls.e0, HS.out.ls.e1⟩
                clear hK K
                (try simp only [Act.put, nA, nB, nC])
                clear hHeld
                revert HB
                revert HS
                revert b4
                revert wn
                exact SH5.out
            · go_simp; obtain ⟨b3, hb⟩ : ∃ x, wx.heap.size = x := ⟨_, rfl⟩; have HA := Lib.hid (cr_newv HS.out b3 hb); (try (have HN := Lib.hid (show b3 ≠ b4 by have := HB.out.1.lt; omega))); have hBB := (Below.refl wx.heap.size wx).alloc (Nat.le_refl _) (.cells #[.int .i64 0, .int .i64 0, .int .i64 0] 43); (try (have HB2 := Lib.hid (And.intro (HB.out.1.below hBB) HB.out.2); clear HB; have HB := HB2; clear HB2)); have HS2 := Lib.hid (HS.out.down hBB); clear HS; have HS := HS2; clear HS2 hBB; (rw [hb]); clear hb; generalize wx.alloc (.cells #[.int .i64 0, .int .i64 0, .int .i64 0] 43) = wn at *
              refine hK.out _ _ ?_ (fun hHeld => ?_)
              · exact ⟨HS.out.b1, HS.out.ls.e0, HS.out.ls.e1⟩
              clear hK K
              (try simp only [Act.put, nA, nB, nC])
              clear hHeld
              revert HA
              revert HS
              revert b3
              revert wn
              exact SH1.out
            · go_simp; obtain ⟨b4, hb⟩ : ∃ x, wx.heap.size = x := ⟨_, rfl⟩; have HB := Lib.hid (cr_newv HS.out b4 hb); (try (have HN := Lib.hid (show b3 ≠ b4 by have := HA.out.1.lt; omega))); have hBB := (Below.refl wx.heap.size wx).alloc (Nat.le_refl _) (.cells #[.int .i64 0, .int .i64 0, .int .i64 0] 43); (try (have HA2 := Lib.hid (And.intro (HA.out.1.below hBB) HA.out.2); clear HA; have HA := HA2; clear HA2)); have HS2 := Lib.hid (HS.out.down hBB); clear HS; have HS := HS2; clear HS2 hBB; (rw [hb]); clear hb; generalize wx.alloc (.cells #[.int .i64 0, .int .i64 0, .int .i64 0] 43) = wn at *
              refine hK.out _ _ ?_ (fun hHeld => ?_)
              · exact ⟨HS.out.b1, HS.out.ls.e0, HS.out.ls.e1⟩
              clear hK K
              (try simp only [Act.put, nA, nB, nC])
              clear hHeld
              revert HB
              revert HS
              revert b4
              revert wn
              exact SH2.out
          · go_simp; obtain ⟨b3, hb⟩ : ∃ x, wx.heap.size = x := ⟨_, rfl⟩; have HA := Lib.hid (cr_newv HS.out b3 hb); (try (have HN := Lib.hid (show b3 ≠ b4 by have := HB.out.1.lt; omega))); have hBB := (Below.refl wx.heap.size wx).alloc (Nat.le_refl _) (.cells #[.int .i64 0, .int .i64 0, .int .i64 0] 43); (try (have HB2 := Lib.hid (And.intro (HB.out.1.below hBB) HB.out.2); clear HB; have HB := HB2; clear HB2)); have HS2 := Lib.hid (HS.out.down hBB); clear HS; have HS := HS2; clear HS2 hBB; (rw [hb]); clear hb; generalize wx.alloc (.cells #[.int .i64 0, .int .i64 0, .int .i64 0] 43) = wn at *
            refine hK.out _ _ ?_ (fun hHeld => ?_)
            · exact ⟨HS.out.b1, HS.out.ls.e0, HS.out.ls.e1⟩
            clear hK K
            (try simp only [Act.put, nA, nB, nC])
            clear hHeld
            revert HA
            revert HS
            revert b3
            revert wn
            intro wx b3 HS HA
            refine wpAnyM_twoS 5 13 rfl rfl (by kernel_rfl) (fun K hK => ?_) (fun K hK => ?_)
            · go_simp
              (refine (vsub_any c H1 (fun i => E (5 + i)) (fun i => O (5 + i)) _ HS.out.ls.cell HS.out.ls.free).mono ?_); (rw [NV.out.1, NV.out.2]); rintro e wn ⟨rfl, hu⟩; (try (have HA2 := Lib.hid (And.intro (HA.out.1.upd hu (by have := HA.out.2; have := HS.out.ls.cb; have := HS.out.big; omega)) HA.out.2); clear HA; have HA := HA2; clear HA2)); (try (have HB2 := Lib.hid (And.intro (HB.out.1.upd hu (by have := HB.out.2; have := HS.out.ls.cb; have := HS.out.big; omega)) HB.out.2); clear HB; have HB := HB2; clear HB2)); have HS2 := Lib.hid (HS.out.upd' hu); clear HS; have HS := HS2; clear HS2 hu
              (try dsimp only)
              (try simp only [Act.put, nA, nB, nC])
              refine hK.out _ _ ?_ (fun hHeld => ?_)
              · exact ⟨HS.out.b1, HS.out.ls.e0, HS.out.ls.e1⟩
              clear hK K
              (try simp only [Act.put, nA, nB, nC])
              exact SH1.out _ _ HS HA
            · go_simp; obtain ⟨b4, hb⟩ : ∃ x, wx.heap.size = x := ⟨_, rfl⟩; have HB := Lib.hid (cr_newv HS.out b4 hb); (try (have HN := Lib.hid (show b3 ≠ b4 by have := HA.out.1.lt; omega))); have hBB := (Below.refl wx.heap.size wx).alloc (Nat.le_refl _) (.cells #[.int .i64 0, .int .i64 0, .int .i64 0] 43); (try (have HA2 := Lib.hid (And.intro (HA.out.1.below hBB) HA.out.2); clear HA; have HA := HA2; clear HA2)); have HS2 := Lib.hid (HS.out.down hBB); clear HS; have HS := HS2; clear HS2 hBB; (rw [hb]); clear hb; generalize wx.alloc (.cells #[.int .i64 0, .int .i64 0, .int .i64 0] 43) = wn at *
              refine hK.out _ _ ?_ (fun hHeld => ?_)
              · exact ⟨HS.out.b1, HS.out.ls.e0, HS.out.ls.e1⟩
              clear hK K
              (try simp only [Act.put, nA, nB, nC])
              clear hHeld
              revert HN
              revert HB
              revert HA
              revert HS
              revert b4
              revert b3
              revert wn
              exact SH3.out
          · go_simp; obtain ⟨b4, hb⟩ : ∃ x, wx.heap.size = x := ⟨_, rfl⟩; have HB := Lib.hid (cr_newv HS.out b4 hb); (try (have HN := Lib.hid (show b3 ≠ b4 by have := HA.out.1.lt; omega))); have hBB := (Below.refl wx.heap.size wx).alloc (Nat.le_refl _) (.cells #[.int .i64 0, .int .i64 0, .int .i64 0] 43); (try (have HA2 := Lib.hid (And.intro (HA.out.1.below hBB) HA.out.2); clear HA; have HA := HA2; clear HA2)); have HS2 := Lib.hid (HS.out.down hBB); clear HS; have HS := HS2; clear HS2 hBB; (rw [hb]); clear hb; generalize wx.alloc (.cells #[.int .i64 0, .int .i64 0, .int .i64 0] 43) = wn at *
            refine hK.out _ _ ?_ (fun hHeld => ?_)
            · exact ⟨HS.out.b1, HS.out.ls.e0, HS.out.ls.e1⟩
            clear hK K
            (try simp only [Act.put, nA, nB, nC])
            clear hHeld
            revert HB
            revert HS
            revert b4
            revert wn
            intro wx b4 HS HB
            refine wpAnyM_twoS 5 12 rfl rfl (by kernel_rfl) (fun K hK => ?_) (fun K hK => ?_)
            · go_simp
              (refine (vsub_any c H1 (fun i => E (5 + i)) (fun i => O (5 + i)) _ HS.out.ls.cell HS.out.ls.free).mono ?_); (rw [NV.out.1, NV.out.2]); rintro e wn ⟨rfl, hu⟩; (try (have HA2 := Lib.hid (And.intro (HA.out.1.upd hu (by have := HA.out.2; have := HS.out.ls.cb; have := HS.out.big; omega)) HA.out.2); clear HA; have HA := HA2; clear HA2)); (try (have HB2 := Lib.hid (And.intro (HB.out.1.upd hu (by have := HB.out.2; have := HS.out.ls.cb; have := HS.out.big; omega)) HB.out.2); clear HB; have HB := HB2; clear HB2)); have HS2 := Lib.hid (HS.out.upd' hu); clear HS; have HS := HS2; clear HS2 hu
              (try dsimp only)
              (try simp only [Act.put, nA, nB, nC])
              refine hK.out _ _ ?_ (fun hHeld => ?_)
              · exact ⟨HS.out.b1, HS.out.ls.e0, HS.out.ls.e1⟩
              clear hK K
              (try simp only [Act.put, nA, nB, nC])
              exact SH2.out _ _ HS HB
            · go_simp; obtain ⟨b3, hb⟩ : ∃ x, wx.heap.size = x := ⟨_, rfl⟩; have HA := Lib.hid (cr_newv HS.out b3 hb); (try (have HN := Lib.hid (show b3 ≠ b4 by have := HB.out.1.lt; omega))); have hBB := (Below.refl wx.heap.size wx).alloc (Nat.le_refl _) (.cells #[.int .i64 0, .int .i64 0, .int .i64 0] 43); (try (have HB2 := Lib.hid (And.intro (HB.out.1.below hBB) HB.out.2); clear HB; have HB := HB2; clear HB2)); have HS2 := Lib.hid (HS.out.down hBB); clear HS; have HS := HS2; clear HS2 hBB; (rw [hb]); clear hb; generalize wx.alloc (.cells #[.int .i64 0, .int .i64 0, .int .i64 0] 43) = wn at *
              refine hK.out _ _ ?_ (fun hHeld => ?_)
              · exact ⟨HS.out.b1, HS.out.ls.e0, HS.out.ls.e1⟩
              clear hK K
              (try simp only [Act.put, nA, nB, nC])
              exact SH3.out _ _ _ HS HA HB HN
        case sp1 =>
          intro wx b3 HS HA
          refine wpAnyM_twoS 11 13 rfl rfl (by kernel_rfl) (fun K hK => ?_) (fun K hK => ?_)
          · go_simp
            (refine (vsub_any c H2 (fun i => E (8 + i)) (fun i => O (8 + i)) _ HS.out.ls.cell HS.out.ls.free).mono ?_); (rw [NP.out.1, NP.out.2]); rintro e wn ⟨rfl, hu⟩; (try (have HA2 := Lib.hid (And.intro (HA.out.1.upd hu (by have := HA.out.2; have := HS.out.ls.cb; have := HS.out.big; omega)) HA.out.2); clear HA; have HA := HA2; clear HA2)); (try (have HB2 := Lib.hid (And.intro (HB.out.1.upd hu (by have := HB.out.2; have := HS.out.ls.cb; have := HS.out.big; omega)) HB.out.2); clear HB; have HB := HB2; clear HB2)); have HS2 := Lib.hid (HS.out.upd' hu); clear HS; have HS := HS2; clear HS2 hu
            (try dsimp only)
            (try simp only [Act.put, nA, nB, nC])
            refine hK.out _ _ ?_ (fun hHeld => ?_)
            · exact ⟨HS.out.b1, HS.out.ls.e0, HS.out.ls.e1⟩
            clear hK K
            (try simp only [Act.put, nA, nB, nC])
            exact SH4.out _ _ HS HA
          · go_simp; obtain ⟨b4, hb⟩ : ∃ x, wx.heap.size = x := ⟨_, rfl⟩; have HB := Lib.hid (cr_newv HS.out b4 hb); (try (have HN := Lib.hid (show b3 ≠ b4 by have := HA.out.1.lt; omega))); have hBB := (Below.refl wx.heap.size wx).alloc (Nat.le_refl _) (.cells #[.int .i64 0, .int .i64 0, .int .i64 0] 43); (try (have HA2 := Lib.hid (And.intro (HA.out.1.below hBB) HA.out.2); clear HA; have HA := HA2; clear HA2)); have HS2 := Lib.hid (HS.out.down hBB); clear HS; have HS := HS2; clear HS2 hBB; (rw [hb]); clear hb; generalize wx.alloc (.cells #[.int .i64 0, .int .i64 0, .int .i64 0] 43) = wn at *
            refine hK.out _ _ ?_ (fun hHeld => ?_)
            · exact ⟨HS.out.b1, HS.out.ls.e0, HS.out.ls.e1⟩
            clear hK K
            (try simp only [Act.put, nA, nB, nC])
            clear hHeld
            revert HN
            revert HB
            revert HA
            revert HS
            revert b4
            revert b3
            revert wn
            exact SH6.out
        case sp2 =>
          intro wx b4 HS HB
          refine wpAnyM_twoS 11 12 rfl rfl (by kernel_rfl) (fun K hK => ?_) (fun K hK => ?_)
          · go_simp
            (refine (vsub_any c H2 (fun i => E (8 + i)) (fun i => O (8 + i)) _ HS.out.ls.cell HS.out.ls.free).mono ?_); (rw [NP.out.1, NP.out.2]); rintro e wn ⟨rfl, hu⟩; (try (have HA2 := Lib.hid (And.intro (HA.out.1.upd hu (by have := HA.out.2; have := HS.out.ls.cb; have := HS.out.big; omega)) HA.out.2); clear HA; have HA := HA2; clear HA2)); (try (have HB2 := Lib.hid (And.intro (HB.out.1.upd hu (by have := HB.out.2; have := HS.out.ls.cb; have := HS.out.big; omega)) HB.out.2); clear HB; have HB := HB2; clear HB2)); have HS2 := Lib.hid (HS.out.upd' hu); clear HS; have HS := HS2; clear HS2 hu
            (try dsimp only)
            (try simp only [Act.put, nA, nB, nC])
            refine hK.out _ _ ?_ (fun hHeld => ?_)
            · exact ⟨HS.out.b1, HS.out.ls.e0, HS.out.ls.e1⟩
            clear hK K
            (try simp only [Act.put, nA, nB, nC])
            exact SH5.out _ _ HS HB
          · go_simp; obtain ⟨b3, hb⟩ : ∃ x, wx.heap.size = x := ⟨_, rfl⟩; have HA := Lib.hid (cr_newv HS.out b3 hb); (try (have HN := Lib.hid (show b3 ≠ b4 by have := HB.out.1.lt; omega))); have hBB := (Below.refl wx.heap.size wx).alloc (Nat.le_refl _) (.cells #[.int .i64 0, .int .i64 0, .int .i64 0] 43); (try (have HB2 := Lib.hid (And.intro (HB.out.1.below hBB) HB.out.2); clear HB; have HB := HB2; clear HB2)); have HS2 := Lib.hid (HS.out.down hBB); clear HS; have HS := HS2; clear HS2 hBB; (rw [hb]); clear hb; generalize wx.alloc (.cells #[.int .i64 0, .int .i64 0, .int .i64 0] 43) = wn at *
            refine hK.out _ _ ?_ (fun hHeld => ?_)
            · exact ⟨HS.out.b1, HS.out.ls.e0, HS.out.ls.e1⟩
            clear hK K
            (try simp only [Act.put, nA, nB, nC])
            exact SH6.out _ _ _ HS HA HB HN
        case sp3 =>
          intro wx b3 b4 HS HA HB HN
          refine wpAnyM_oneS 5 rfl (by kernel_rfl) (fun K hK => ?_)
          go_simp
          (refine (vsub_any c H1 (fun i => E (5 + i)) (fun i => O (5 + i)) _ HS.out.ls.cell HS.out.ls.free).mono ?_); (rw [NV.out.1, NV.out.2]); rintro e wn ⟨rfl, hu⟩; (try (have HA2 := Lib.hid (And.intro (HA.out.1.upd hu (by have := HA.out.2; have := HS.out.ls.cb; have := HS.out.big; omega)) HA.out.2); clear HA; have HA := HA2; clear HA2)); (try (have HB2 := Lib.hid (And.intro (HB.out.1.upd hu (by have := HB.out.2; have := HS.out.ls.cb; have := HS.out.big; omega)) HB.out.2); clear HB; have HB := HB2; clear HB2)); have HS2 := Lib.hid (HS.out.upd' hu); clear HS; have HS := HS2; clear HS2 hu
          (try dsimp only)
          (try simp only [Act.put, nA, nB, nC])
          refine hK.out _ _ ?_ (fun hHeld => ?_)
          · exact ⟨HS.out.b1, HS.out.ls.e0, HS.out.ls.e1⟩
          clear hK K
          (try simp only [Act.put, nA, nB, nC])
          exact SH6.out _ _ _ HS HA HB HN
        case sp4 =>
          intro wx b3 HS HA
          refine wpAnyM_oneS 13 rfl (by kernel_rfl) (fun K hK => ?_)
          go_simp; obtain ⟨b4, hb⟩ : ∃ x, wx.heap.size = x := ⟨_, rfl⟩; have HB := Lib.hid (cr_newv HS.out b4 hb); (try (have HN := Lib.hid (show b3 ≠ b4 by have := HA.out.1.lt; omega))); have hBB := (Below.refl wx.heap.size wx).alloc (Nat.le_refl _) (.cells #[.int .i64 0, .int .i64 0, .int .i64 0] 43); (try (have HA2 := Lib.hid (And.intro (HA.out.1.below hBB) HA.out.2); clear HA; have HA := HA2; clear HA2)); have HS2 := Lib.hid (HS.out.down hBB); clear HS; have HS := HS2; clear HS2 hBB; (rw [hb]); clear hb; generalize wx.alloc (.cells #[.int .i64 0, .int .i64 0, .int .i64 0] 43) = wn at *
          refine hK.out _ _ ?_ (fun hHeld => ?_)
          · exact ⟨HS.out.b1, HS.out.ls.e0, HS.out.ls.e1⟩
          clear hK K
          (try simp only [Act.put, nA, nB, nC])
          clear hHeld
          revert HN
          revert HB
          revert HA
          revert HS
          revert b4
          revert b3
          revert wn
          exact SH7.out
        case sp5 =>
          intro wx b4 HS HB
          refine wpAnyM_oneS 12 rfl (by kernel_rfl) (fun K hK => ?_)
          go_simp; obtain ⟨b3, hb⟩ : ∃ x, wx.heap.size = x := ⟨_, rfl⟩; have HA := Lib.hid (cr_newv HS.out b3 hb); (try (have HN := Lib.hid (show b3 ≠ b4 by have := HB.out.1.lt; omega))); have hBB := (Below.refl wx.heap.size wx).alloc (Nat.le_refl _) (.cells #[.int .i64 0, .int .i64 0, .int .i64 0] 43); (try (have HB2 := Lib.hid (And.intro (HB.out.1.below hBB) HB.out.2); clear HB; have HB := HB2; clear HB2)); have HS2 := Lib.hid (HS.out.down hBB); clear HS; have HS := HS2; clear HS2 hBB; (rw [hb]); clear hb; generalize wx.alloc (.cells #[.int .i64 0, .int .i64 0, .int .i64 0] 43) = wn at *
          refine hK.out _ _ ?_ (fun hHeld => ?_)
          · exact ⟨HS.out.b1, HS.out.ls.e0, HS.out.ls.e1⟩
          clear hK K
          (try simp only [Act.put, nA, nB, nC])
          exact SH7.out _ _ _ HS HA HB HN
        case sp6 =>
          intro wx b3 b4 HS HA HB HN
          refine wpAnyM_oneS 11 rfl (by kernel_rfl) (fun K hK => ?_)
          go_simp
          (refine (vsub_any c H2 (fun i => E (8 + i)) (fun i => O (8 + i)) _ HS.out.ls.cell HS.out.ls.free).mono ?_); (rw [NP.out.1, NP.out.2]); rintro e wn ⟨rfl, hu⟩; (try (have HA2 := Lib.hid (And.intro (HA.out.1.upd hu (by have := HA.out.2; have := HS.out.ls.cb; have := HS.out.big; omega)) HA.out.2); clear HA; have HA := HA2; clear HA2)); (try (have HB2 := Lib.hid (And.intro (HB.out.1.upd hu (by have := HB.out.2; have := HS.out.ls.cb; have := HS.out.big; omega)) HB.out.2); clear HB; have HB := HB2; clear HB2)); have HS2 := Lib.hid (HS.out.upd' hu); clear HS; have HS := HS2; clear HS2 hu
          (try dsimp only)
          (try simp only [Act.put, nA, nB, nC])
          refine hK.out _ _ ?_ (fun hHeld => ?_)
          · exact ⟨HS.out.b1, HS.out.ls.e0, HS.out.ls.e1⟩
          clear hK K
          (try simp only [Act.put, nA, nB, nC])
          exact SH7.out _ _ _ HS HA HB HN
        case sp7 =>
          intro wx b3 b4 HS HA HB HN
          have hHeld : (((fun w' => w'.cell? ⟨w.heap.size + 1, 0, none⟩ = some (.pointer (some c)) ∧ Blk w' b1 49 11 O ∧ Blk w' b2 49 11 E)) wx) := by exact ⟨HS.out.b1, HS.out.ls.e0, HS.out.ls.e1⟩
          have HE := Lib.hid (HA.out.1.setRow DV); have HB2 := Lib.hid (HB.out.1.setRow_other (arrv 3 DV) (fun e => HN.out e.symm)); have HS2 := Lib.hid (HS.out.put HA.out.2 (arrv 3 DV)); clear HS; have HS := HS2; clear HS2
          clear hHeld
          refine wpAnyM_doneS 14 rfl (by kernel_rfl) (by rfl) (run_store_row 43 (.tmp 14) (.tmp 53) rfl _ rfl rfl HA.out.1 (iv3.trans rfl)) ?_ (fun hHeld => ?_)
          · exact ⟨HS.out.b1, HS.out.ls.e0, HS.out.ls.e1⟩
          (try simp only [Act.put])
          refine wpAnyM_doneL 15 rfl (by kernel_rfl) (by rfl) (by kernel_rfl) (run_store_row 43 (.tmp 15) (.tmp 59) rfl _ rfl rfl HB2.out (iv3.trans rfl)) ?_
          (try simp only [Act.put, nA, nB, nC])
          refine wpAnyM_done (by kernel_rfl) ?_ _
          (have HZ := Lib.hid ((cr_two (HS.out.put HB.out.2 (arrv 3 DP)) (HE.out.setRow_other (arrv 3 DP) HN.out) (HB2.out.setRow DP) HA.out.2 HB.out.2).sub (E' := [⟨b3, 43, 3, DV⟩, ⟨b4, 43, 3, DP⟩, ⟨b1, 49, 11, O⟩, ⟨b2, 49, 11, E⟩]) (by simp)); have hne := HN.out; go_wp2_with fail; go_meet; exact ⟨_, _, rfl, rfl, hne, HZ⟩)
      case rest =>
      obtain ⟨b3, b4, rfl, rfl, hn34, HB⟩ := hcut
      clear HS
      go_upto_region 12 with fail
      have HS := Lib.hid HB.out.drew
      clear HB
      (try simp only [Act.put])
      go_cut [16] from 60 to 67 (fun s16 wx => ∃ b5, s16 = .pointer (some ⟨b5, 0, none⟩) ∧ b5 ≠ b3 ∧ b5 ≠ b4 ∧ Hid (CrR c H4 pb z g (.slice (some ⟨gb, 0, none⟩) k cp) k L [⟨b5, 42, 4, RR⟩, ⟨b3, 43, 3, DV⟩, ⟨b4, 43, 3, DP⟩] wx.heap.size w wx))
      case first =>
        obtain ⟨top, htop⟩ : ∃ x, wc.heap.size = x := ⟨_, rfl⟩
        rw [htop] at HS
        clear htop
        refine wp_region_M (fun w' => w'.cell? ⟨w.heap.size + 1, 0, none⟩ = some (.pointer (some c)) ∧ Blk w' b1 49 11 O ∧ Blk w' b2 49 11 E) 8 (by kernel_rfl) ?_ (fun hHeld => ?_)
        · exact ⟨HS.out.b1, HS.out.ls.e2, HS.out.ls.e3⟩
        obtain ⟨wx, hwx⟩ : ∃ x, wc.drew = x := ⟨_, rfl⟩; rw [hwx] at HS hHeld ⊢; clear hwx
        clear hHeld
        revert HS
        revert wx
        refine share (T := ?_) (fun SH2 => ?_) ?sp2
        rotate_left
        refine share (T := ?_) (fun SH1 => ?_) ?sp1
        rotate_left
        · intro wx  HS
          have hHeld : (((fun w' => w'.cell? ⟨w.heap.size + 1, 0, none⟩ = some (.pointer (some c)) ∧ Blk w' b1 49 11 O ∧ Blk w' b2 49 11 E)) wx) := by exact ⟨HS.out.b1, HS.out.ls.e2, HS.out.ls.e3⟩
          refine wpAnyM_take 0 (v := ?_) rfl (by kernel_rfl) (fun _ _ _ h => h) (Or.inl ⟨by rfl, ?_⟩) (by assumption) ?_
          rotate_left
          · (intro wz hSw; have q := hSw.1; go_simp; with_reducible rfl)
          (try simp only [Act.put, nA, nB, nC])
          refine wpAnyM_take 1 (v := ?_) rfl (by kernel_rfl) (fun _ _ _ h => h) (Or.inl ⟨by rfl, ?_⟩) (by assumption) ?_
          rotate_left
          · (intro wz hSw; (try dsimp only at hSw); go_simp; (try with_reducible rfl))
          (try simp only [Act.put, nA, nB, nC])
          refine wpAnyM_take 2 (v := ?_) rfl (by kernel_rfl) (fun _ _ _ h => h) (Or.inl ⟨by rfl, ?_⟩) (by assumption) ?_
          rotate_left
          · (intro wz hSw; refine Eq.trans (run_load_sub 42 (.tmp 61) (by rfl) b2 1 4 (by rfl) hSw.2.2 (by decide) _ Try.underlying42 rfl iqt) ?_; with_reducible rfl)
          (try simp only [Act.put, nA, nB, nC])
          refine wpAnyM_take 3 (v := ?_) rfl (by kernel_rfl) (fun _ _ _ h => h) (Or.inl ⟨by rfl, ?_⟩) (by assumption) ?_
          rotate_left
          · (intro wz hSw; (try dsimp only at hSw); go_simp; (try with_reducible rfl))
          (try simp only [Act.put, nA, nB, nC])
          refine wpAnyM_take 4 (v := ?_) rfl (by kernel_rfl) (fun _ _ _ h => h) (Or.inl ⟨by rfl, ?_⟩) (by assumption) ?_
          rotate_left
          · (intro wz hSw; refine Eq.trans (run_load_sub 42 (.tmp 63) (by rfl) b1 1 4 (by rfl) hSw.2.1 (by decide) _ Try.underlying42 rfl iqt) ?_; with_reducible rfl)
          (try simp only [Act.put, nA, nB, nC])
          clear hHeld
          refine wpAnyM_twoS 5 7 rfl rfl (by kernel_rfl) (fun K hK => ?_) (fun K hK => ?_)
          · go_simp
            (refine (conj_any (fun i => O (1 + i)) _).mono ?_); rintro e wn ⟨rfl, hb⟩; (try (have HA2 := Lib.hid (And.intro (HA.out.1.below hb) HA.out.2); clear HA; have HA := HA2; clear HA2)); have HS2 := Lib.hid (HS.out.down hb); clear HS; have HS := HS2; clear HS2 hb
            (try dsimp only)
            (try simp only [Act.put, nA, nB, nC])
            refine hK.out _ _ ?_ (fun hHeld => ?_)
            · exact ⟨HS.out.b1, HS.out.ls.e2, HS.out.ls.e3⟩
            clear hK K
            (try simp only [Act.put, nA, nB, nC])
            clear hHeld
            revert HS
            revert wn
            intro wx  HS
            refine wpAnyM_twoS 6 7 rfl rfl (by kernel_rfl) (fun K hK => ?_) (fun K hK => ?_)
            · go_simp
              (refine (qmul_any c H3 (fun i => E (1 + i)) (conjV (fun i => O (1 + i))) _ HS.out.ls.cell HS.out.ls.free).mono ?_); (rw [NR.out.1, NR.out.2]); rintro e wn ⟨rfl, hu⟩; (try (have HA2 := Lib.hid (And.intro (HA.out.1.upd hu (by have := HA.out.2; have := HS.out.ls.cb; have := HS.out.big; omega)) HA.out.2); clear HA; have HA := HA2; clear HA2)); have HS2 := Lib.hid (HS.out.upd' hu); clear HS; have HS := HS2; clear HS2 hu
              (try dsimp only)
              (try simp only [Act.put, nA, nB, nC])
              refine hK.out _ _ ?_ (fun hHeld => ?_)
              · exact ⟨HS.out.b1, HS.out.ls.e2, HS.out.ls.e3⟩
              clear hK K
              (try simp only [Act.put, nA, nB, nC])
              clear hHeld
              revert HS
              revert wn
              intro wx  HS
              refine wpAnyM_oneS 7 rfl (by kernel_rfl) (fun K hK => ?_)
              go_simp; obtain ⟨b5, hb⟩ : ∃ x, wx.heap.size = x := ⟨_, rfl⟩; have HA := Lib.hid (cr_newq HS.out b5 hb); have hBB := (Below.refl wx.heap.size wx).alloc (Nat.le_refl _) (.cells #[.int .i64 0, .int .i64 0, .int .i64 0, .int .i64 0] 42); have HS2 := Lib.hid (HS.out.down hBB); clear HS; have HS := HS2; clear HS2 hBB; (rw [hb]); clear hb; generalize wx.alloc (.cells #[.int .i64 0, .int .i64 0, .int .i64 0, .int .i64 0] 42) = wn at *
              refine hK.out _ _ ?_ (fun hHeld => ?_)
              · exact ⟨HS.out.b1, HS.out.ls.e2, HS.out.ls.e3⟩
              clear hK K
              (try simp only [Act.put, nA, nB, nC])
              clear hHeld
              revert HA
              revert HS
              revert b5
              revert wn
              exact SH2.out
            · go_simp; obtain ⟨b5, hb⟩ : ∃ x, wx.heap.size = x := ⟨_, rfl⟩; have HA := Lib.hid (cr_newq HS.out b5 hb); have hBB := (Below.refl wx.heap.size wx).alloc (Nat.le_refl _) (.cells #[.int .i64 0, .int .i64 0, .int .i64 0, .int .i64 0] 42); have HS2 := Lib.hid (HS.out.down hBB); clear HS; have HS := HS2; clear HS2 hBB; (rw [hb]); clear hb; generalize wx.alloc (.cells #[.int .i64 0, .int .i64 0, .int .i64 0, .int .i64 0] 42) = wn at *
              refine hK.out _ _ ?_ (fun hHeld => ?_)
              · exact ⟨HS.out.b1, HS.out.ls.e2, HS.out.ls.e3⟩
              clear hK K
              (try simp only [Act.put, nA, nB, nC])
              clear hHeld
              revert HA
              revert HS
              revert b5
              revert wn
              exact SH1.out
          · go_simp; obtain ⟨b5, hb⟩ : ∃ x, wx.heap.size = x := ⟨_, rfl⟩; have HA := Lib.hid (cr_newq HS.out b5 hb); have hBB := (Below.refl wx.heap.size wx).alloc (Nat.le_refl _) (.cells #[.int .i64 0, .int .i64 0, .int .i64 0, .int .i64 0] 42); have HS2 := Lib.hid (HS.out.down hBB); clear HS; have HS := HS2; clear HS2 hBB; (rw [hb]); clear hb; generalize wx.alloc (.cells #[.int .i64 0, .int .i64 0, .int .i64 0, .int .i64 0] 42) = wn at *
            refine hK.out _ _ ?_ (fun hHeld => ?_)
            · exact ⟨HS.out.b1, HS.out.ls.e2, HS.out.ls.e3⟩
            clear hK K
            (try simp only [Act.put, nA, nB, nC])
            clear hHeld
            revert HA
            revert HS
            revert b5
            revert wn
            intro wx b5 HS HA
            refine wpAnyM_oneS 5 rfl (by kernel_rfl) (fun K hK => ?_)
            go_simp
            (refine (conj_any (fun i => O (1 + i)) _).mono ?_); rintro e wn ⟨rfl, hb⟩; (try (have HA2 := Lib.hid (And.intro (HA.out.1.below hb) HA.out.2); clear HA; have HA := HA2; clear HA2)); have HS2 := Lib.hid (HS.out.down hb); clear HS; have HS := HS2; clear HS2 hb
            (try dsimp only)
            (try simp only [Act.put, nA, nB, nC])
            refine hK.out _ _ ?_ (fun hHeld => ?_)
            · exact ⟨HS.out.b1, HS.out.ls.e2, HS.out.ls.e3⟩
            clear hK K
            (try simp only [Act.put, nA, nB, nC])
            exact SH1.out _ _ HS HA
        case sp1 =>
          intro wx b5 HS HA
          refine wpAnyM_oneS 6 rfl (by kernel_rfl) (fun K hK => ?_)
          go_simp
          (refine (qmul_any c H3 (fun i => E (1 + i)) (conjV (fun i => O (1 + i))) _ HS.out.ls.cell HS.out.ls.free).mono ?_); (rw [NR.out.1, NR.out.2]); rintro e wn ⟨rfl, hu⟩; (try (have HA2 := Lib.hid (And.intro (HA.out.1.upd hu (by have := HA.out.2; have := HS.out.ls.cb; have := HS.out.big; omega)) HA.out.2); clear HA; have HA := HA2; clear HA2)); have HS2 := Lib.hid (HS.out.upd' hu); clear HS; have HS := HS2; clear HS2 hu
          (try dsimp only)
          (try simp only [Act.put, nA, nB, nC])
          refine hK.out _ _ ?_ (fun hHeld => ?_)
          · exact ⟨HS.out.b1, HS.out.ls.e2, HS.out.ls.e3⟩
          clear hK K
          (try simp only [Act.put, nA, nB, nC])
          exact SH2.out _ _ HS HA
        case sp2 =>
          intro wx b5 HS HA
          have hHeld : (((fun w' => w'.cell? ⟨w.heap.size + 1, 0, none⟩ = some (.pointer (some c)) ∧ Blk w' b1 49 11 O ∧ Blk w' b2 49 11 E)) wx) := by exact ⟨HS.out.b1, HS.out.ls.e2, HS.out.ls.e3⟩
          refine wpAnyM_doneL 8 rfl (by kernel_rfl) (by rfl) (by kernel_rfl) (run_store_row 42 (.tmp 16) (.tmp 66) rfl _ rfl rfl HA.out.1 (iqt.trans rfl)) ?_
          (try simp only [Act.put, nA, nB, nC])
          refine wpAnyM_done (by kernel_rfl) ?_ _
          (have HZ := Lib.hid ((cr_one (HS.out.put HA.out.2 (arrv 4 RR)) (HA.out.1.setRow RR) HA.out.2).sub (E' := [⟨b5, 42, 4, RR⟩, ⟨b3, 43, 3, DV⟩, ⟨b4, 43, 3, DP⟩]) (by simp)); have h1 := (HS.out.ls.ex ⟨b3, 43, 3, DV⟩ (by simp)).2.2; have h2 := (HS.out.ls.ex ⟨b4, 43, 3, DP⟩ (by simp)).2.2; have h3 := HA.out.2; go_wp2_with fail; go_meet; exact ⟨_, rfl, by (try simp only at h1); omega, by (try simp only at h2); omega, HZ⟩)
      case rest =>
      obtain ⟨b5, rfl, hn53, hn54, HB⟩ := hcut
      clear HS
      go_upto_region 13 with fail
      refine wp_region_lit ?_
      refine wpList_val (v := ?_) rfl ?_ ?_
      rotate_left
      · (refine Eq.trans (run_build_qOne (by rfl) (by rfl)) ?_; with_reducible rfl)
      (try simp only [Act.put, nA, nB, nC])
      refine wpList_act (v := ?_) (w' := ?_) rfl ?_ ?_
      rotate_left 2
      · (go_simp; (try (first | with_reducible rfl | (constructor <;> with_reducible rfl))))
      (try simp only [Act.put, nA, nB, nC])
      refine wpList_done (w' := ?_) rfl ?_ ?_
      rotate_left
      · (refine Eq.trans (run_store_row 42 (.tmp 17) (.tmp 67) (by rfl) (wc.heap.size) (by rfl) (by rfl) (show Blk (wc.alloc (.cells #[.int .i64 0, .int .i64 0, .int .i64 0, .int .i64 0] 42)) wc.heap.size 42 4 (fun _ => 0) by rw [zq4]; exact Blk.new _ _ _ _) (iqt.trans rfl)) ?_; with_reducible rfl)
      (try simp only [Act.put, nA, nB, nC])
      refine wpList_nil ?_
      have N0 := Lib.hid (show CrR c (H4 || tuQH g RR 1) pb z g (.slice (some ⟨gb, 0, none⟩) k cp) k L [⟨wc.heap.size, 42, 4, tuQ g RR 1⟩, ⟨b5, 42, 4, sgQ RR 1⟩, ⟨b3, 43, 3, DV⟩, ⟨b4, 43, 3, DP⟩] (wc.heap.size + 1) w ((wc.alloc (.cells #[.int .i64 0, .int .i64 0, .int .i64 0, .int .i64 0] 42)).setRow wc.heap.size (arrv 4 oneQ)) by
        rw [zq4, tuQ_one, sgQ_0, show (H4 || tuQH g RR 1) = H4 by simp [tuQH, orB]]; exact cr_lay HB.out 42 4 (fun _ => 0) oneQ)
      have h65 : wc.heap.size ≠ b5 := by have := HB.out.ls.e0.lt; omega
      have h63 : wc.heap.size ≠ b3 := by have := HB.out.ls.e1.lt; omega
      have h64 : wc.heap.size ≠ b4 := by have := HB.out.ls.e2.lt; omega
      clear HB
      generalize (wc.alloc (.cells #[.int .i64 0, .int .i64 0, .int .i64 0, .int .i64 0] 42)).setRow wc.heap.size (arrv 4 oneQ) = W2 at *
      obtain ⟨b6, hb6⟩ : ∃ x, wc.heap.size = x := ⟨_, rfl⟩
      rw [hb6] at N0 h65 h63 h64 ⊢
      clear hb6
      go_upto_region 15 with fail
      go_loopw [18] (fun i wr => ∃ j : Nat, 1 ≤ j ∧ j ≤ 4 ∧ i = .int .i64 j ∧ Hid (CrR c (H4 || tuQH g RR j) pb z g (.slice (some ⟨gb, 0, none⟩) k cp) k L [⟨b6, 42, 4, tuQ g RR j⟩, ⟨b5, 42, 4, sgQ RR j⟩, ⟨b3, 43, 3, DV⟩, ⟨b4, 43, 3, DP⟩] (b6 + 1) w wr)) (fun i _ => 4 - (intOf i).toNat)
      case atStart => exact ⟨1, by omega, by omega, rfl, N0⟩
      case round =>
        obtain ⟨j, hj1, hj4, rfl, R⟩ := hrel
        clear N0
        by_cases hjl : j < 4
        · have j0 : (0 : Int) ≤ (j : Int) := Int.natCast_nonneg _
          have j1 : (j : Int) < 4 := by omega
          have e4 : decide ((j : Int) < 4) = true := by simp; omega
          have r0 := R.out.ls.e1.cell (i := 0) (by decide)
          have rj := R.out.ls.e1.cell (i := j) hjl
          rw [sgQ_z] at r0
          rw [sgQ_at] at rj
          have TS := Lib.hid (tuQ_succ g RR hj1)
          have TH := Lib.hid (tuQH_succ g RR hj1)
          by_cases hneg : RR 0 < 0
          · have SN := Lib.hid (sgQ_neg (k := j) hj1 hneg)
            rw [if_pos hneg] at TS TH
            have e5 : decide (RR 0 < 0) = true := by simpa using hneg
            have v0 := (rb.out j).1
            have v1 := (rb.out j).2
            obtain ⟨V, hV⟩ : ∃ x, RR j = x := ⟨_, rfl⟩
            rw [hV] at rj TS TH SN v0 v1
            obtain ⟨V0, hV0⟩ : ∃ x, RR 0 = x := ⟨_, rfl⟩
            rw [hV0] at r0 e5
            clear hV hV0 hneg
            have fj := R.out.ls.e1.free j
            have R1 := Lib.hid (show CrR c (H4 || tuQH g RR j) pb z g (.slice (some ⟨gb, 0, none⟩) k cp) k L [⟨b6, 42, 4, tuQ g RR j⟩, ⟨b5, 42, 4, sgQ RR (j + 1)⟩, ⟨b3, 43, 3, DV⟩, ⟨b4, 43, 3, DP⟩] (b6 + 1) w (wr.setCell ⟨b5, j, none⟩ (.int .i64 (-V))) by rw [← SN.out]; exact R.out.set1 (by simpa using h65) (by intro e he; simp at he; rcases he with rfl | rfl; exact fun e => hn53 e.symm; exact fun e => hn54 e.symm) j (-V))
            have NV2 := Lib.hid (IntWalk.i64_in (-V) (by omega))
            have R0b := Lib.hid R.out.ls.e1
            clear R
            go_upto_region 18 with fail
            refine wp_region_lit ?_
            refine wpList_val (v := ?_) rfl ?_ ?_
            rotate_left
            · (go_simp; (try (first | with_reducible rfl | (constructor <;> with_reducible rfl))))
            (try simp only [Act.put, nA, nB, nC])
            refine wpList_val (v := ?_) rfl ?_ ?_
            rotate_left
            · (go_simp; (try (first | with_reducible rfl | (constructor <;> with_reducible rfl))))
            (try simp only [Act.put, nA, nB, nC])
            refine wpList_val (v := ?_) rfl ?_ ?_
            rotate_left
            · (go_simp; (try (first | with_reducible rfl | (constructor <;> with_reducible rfl))))
            (try simp only [Act.put, nA, nB, nC])
            refine wpList_val (v := ?_) rfl ?_ ?_
            rotate_left
            · (go_simp; (try (first | with_reducible rfl | (constructor <;> with_reducible rfl))))
            (try simp only [Act.put, nA, nB, nC])
            refine wpList_val (v := ?_) rfl ?_ ?_
            rotate_left
            · (go_simp; rw [NV2.out])
            (try simp only [Act.put, nA, nB, nC])
            refine wpList_val (v := ?_) rfl ?_ ?_
            rotate_left
            · (go_simp; (try (first | with_reducible rfl | (constructor <;> with_reducible rfl))))
            (try simp only [Act.put, nA, nB, nC])
            refine wpList_done (w' := ?_) rfl ?_ ?_
            rotate_left
            · (refine Eq.trans (run_store_i64 (.tmp 80) (.tmp 79) (by rfl) b5 j (by rfl) (T := 42) (n := 4) (f := sgQ RR j) R0b.out hjl (by rfl)) ?_; with_reducible rfl)
            (try simp only [Act.put, nA, nB, nC])
            refine wpList_nil ?_
            have UJ0 : sgQ RR (j + 1) j = -V := by rw [← SN.out]; simp [Go.Proofs.Ytpoiobgpggiebaa.upd]
            generalize wr.setCell ⟨b5, j, none⟩ (.int .i64 (-V)) = W3 at *
            obtain ⟨U, hU⟩ : ∃ x, -V = x := ⟨_, rfl⟩
            rw [hU] at TS TH UJ0 ⊢
            have UJ := Lib.hid UJ0
            clear hU UJ0 NV2 SN rj r0 fj v0 v1
            go_upto_region 19 with fail
            have HS := Lib.hid R1.out.drew
            clear R1
            (try simp only [Act.put])
            refine wp_region_M (fun w' => w'.cell? ⟨w.heap.size + 1, 0, none⟩ = some (.pointer (some c)) ∧ w'.cell? ⟨w.heap.size, 0, none⟩ = some (.pointer (some ⟨pb, 0, none⟩)) ∧ w'.cell? ⟨pb, 1, none⟩ = some (.int .i64 g) ∧ w'.cell? ⟨b5, j, none⟩ = some (.int .i64 U)) 11 (by kernel_rfl) ?_ (fun hHeld => ?_)
            · exact ⟨HS.out.b1, HS.out.b0, HS.out.pd.c1, (HS.out.ls.e1.cell hjl).trans (by rw [UJ.out])⟩
            refine wpAnyM_take 0 (v := ?_) rfl (by kernel_rfl) (fun _ _ _ h => h) (Or.inl ⟨by rfl, ?_⟩) (by assumption) ?_
            rotate_left
            · (intro wx hSw; (try dsimp only at hSw); go_simp; (try with_reducible rfl))
            (try simp only [Act.put, nA, nB, nC])
            refine wpAnyM_take 1 (v := ?_) rfl (by kernel_rfl) (fun _ _ _ h => h) (Or.inl ⟨by rfl, ?_⟩) (by assumption) ?_
            rotate_left
            · (intro wx hSw; have q := hSw.1; go_simp; with_reducible rfl)
            (try simp only [Act.put, nA, nB, nC])
            refine wpAnyM_take 2 (v := ?_) rfl (by kernel_rfl) (fun _ _ _ h => h) (Or.inl ⟨by rfl, ?_⟩) (by assumption) ?_
            rotate_left
            · (intro wx hSw; have q := hSw.2.1; go_simp; with_reducible rfl)
            (try simp only [Act.put, nA, nB, nC])
            refine wpAnyM_take 3 (v := ?_) rfl (by kernel_rfl) (fun _ _ _ h => h) (Or.inl ⟨by rfl, ?_⟩) (by assumption) ?_
            rotate_left
            · (intro wx hSw; (try dsimp only at hSw); go_simp; (try with_reducible rfl))
            (try simp only [Act.put, nA, nB, nC])
            refine wpAnyM_take 4 (v := ?_) rfl (by kernel_rfl) (fun _ _ _ h => h) (Or.inl ⟨by rfl, ?_⟩) (by assumption) ?_
            rotate_left
            · (intro wx hSw; (try dsimp only at hSw); go_simp; (try with_reducible rfl))
            (try simp only [Act.put, nA, nB, nC])
            refine wpAnyM_take 5 (v := ?_) rfl (by kernel_rfl) (fun _ _ _ h => h) (Or.inl ⟨by rfl, ?_⟩) (by assumption) ?_
            rotate_left
            · (intro wx hSw; have q := hSw.2.2.1; go_simp; with_reducible rfl)
            (try simp only [Act.put, nA, nB, nC])
            refine wpAnyM_take 6 (v := ?_) rfl (by kernel_rfl) (fun _ _ _ h => h) (Or.inl ⟨by rfl, ?_⟩) (by assumption) ?_
            rotate_left
            · (intro wx hSw; (try dsimp only at hSw); go_simp; (try with_reducible rfl))
            (try simp only [Act.put, nA, nB, nC])
            refine wpAnyM_take 7 (v := ?_) rfl (by kernel_rfl) (fun _ _ _ h => h) (Or.inl ⟨by rfl, ?_⟩) (by assumption) ?_
            rotate_left
            · (intro wx hSw; (try dsimp only at hSw); go_simp; (try with_reducible rfl))
            (try simp only [Act.put, nA, nB, nC])
            refine wpAnyM_take 8 (v := ?_) rfl (by kernel_rfl) (fun _ _ _ h => h) (Or.inl ⟨by rfl, ?_⟩) (by assumption) ?_
            rotate_left
            · (intro wx hSw; have q := hSw.2.2.2; go_simp; with_reducible rfl)
            (try simp only [Act.put, nA, nB, nC])
            refine wpAnyM_oneS 9 rfl (by kernel_rfl) (fun K hK => ?_)
            go_simp
            (refine (fmul_any c (H4 || tuQH g RR j) g U 30 _ HS.out.ls.cell HS.out.ls.free).mono ?_); rintro e w5 ⟨rfl, hu⟩; have HS2 := Lib.hid (HS.out.upd' hu); clear HS hu; have HS := HS2; clear HS2
            (try dsimp only)
            (try simp only [Act.put, nA, nB, nC])
            clear hHeld
            refine hK.out _ _ ?_ (fun hHeld => ?_)
            · exact ⟨HS.out.b1, HS.out.b0, HS.out.pd.c1, (HS.out.ls.e1.cell hjl).trans (by rw [UJ.out])⟩
            clear hK K
            (try simp only [Act.put, nA, nB, nC])
            refine wpAnyM_take 10 (v := ?_) rfl (by kernel_rfl) (fun _ _ _ h => h) (Or.inl ⟨by rfl, ?_⟩) (by assumption) ?_
            rotate_left
            · (intro wx hSw; (try dsimp only at hSw); go_simp; (try with_reducible rfl))
            (try simp only [Act.put, nA, nB, nC])
            refine wpAnyM_doneL 11 rfl (by kernel_rfl) (by rfl) (by kernel_rfl) (run_store_i64 (.tmp 91) (.tmp 90) rfl b6 j rfl HS.out.ls.e0 hjl rfl) ?_
            (try simp only [Act.put, nA, nB, nC])
            refine wpAnyM_done (by kernel_rfl) ?_ _
            (have HE := Lib.hid (cr_round TS.out TH.out (HS.out.set (by intro e he; simp at he; rcases he with rfl | rfl | rfl; exact fun e => h65 e.symm; exact fun e => h63 e.symm; exact fun e => h64 e.symm) j (mulV g U 30))); clear HS; go_wp2_with fail; go_roundw; (case rel => exact ⟨j + 1, by omega, by omega, by go_num, HE⟩); (case measure => simp [intOf]; omega))
          · have e5 : decide (RR 0 < 0) = false := by simpa using hneg
            rw [if_neg hneg] at TS TH
            have UJ0 : sgQ RR (j + 1) j = RR j := by rw [sgQ_pos (j + 1) j hneg]; exact sgQ_at RR j
            have R1 := Lib.hid (show CrR c (H4 || tuQH g RR j) pb z g (.slice (some ⟨gb, 0, none⟩) k cp) k L [⟨b6, 42, 4, tuQ g RR j⟩, ⟨b5, 42, 4, sgQ RR (j + 1)⟩, ⟨b3, 43, 3, DV⟩, ⟨b4, 43, 3, DP⟩] (b6 + 1) w wr by rw [sgQ_pos (j + 1) j hneg]; exact R.out)
            obtain ⟨U, hU⟩ : ∃ x, RR j = x := ⟨_, rfl⟩
            rw [hU] at rj TS TH UJ0
            obtain ⟨V0, hV0⟩ : ∃ x, RR 0 = x := ⟨_, rfl⟩
            rw [hV0] at r0 e5
            have UJ := Lib.hid UJ0
            clear hU hV0 hneg UJ0 R
            go_upto_region 19 with fail
            have HS := Lib.hid R1.out.drew
            clear R1
            (try simp only [Act.put])
            refine wp_region_M (fun w' => w'.cell? ⟨w.heap.size + 1, 0, none⟩ = some (.pointer (some c)) ∧ w'.cell? ⟨w.heap.size, 0, none⟩ = some (.pointer (some ⟨pb, 0, none⟩)) ∧ w'.cell? ⟨pb, 1, none⟩ = some (.int .i64 g) ∧ w'.cell? ⟨b5, j, none⟩ = some (.int .i64 U)) 11 (by kernel_rfl) ?_ (fun hHeld => ?_)
            · exact ⟨HS.out.b1, HS.out.b0, HS.out.pd.c1, (HS.out.ls.e1.cell hjl).trans (by rw [UJ.out])⟩
            refine wpAnyM_take 0 (v := ?_) rfl (by kernel_rfl) (fun _ _ _ h => h) (Or.inl ⟨by rfl, ?_⟩) (by assumption) ?_
            rotate_left
            · (intro wx hSw; (try dsimp only at hSw); go_simp; (try with_reducible rfl))
            (try simp only [Act.put, nA, nB, nC])
            refine wpAnyM_take 1 (v := ?_) rfl (by kernel_rfl) (fun _ _ _ h => h) (Or.inl ⟨by rfl, ?_⟩) (by assumption) ?_
            rotate_left
            · (intro wx hSw; have q := hSw.1; go_simp; with_reducible rfl)
            (try simp only [Act.put, nA, nB, nC])
            refine wpAnyM_take 2 (v := ?_) rfl (by kernel_rfl) (fun _ _ _ h => h) (Or.inl ⟨by rfl, ?_⟩) (by assumption) ?_
            rotate_left
            · (intro wx hSw; have q := hSw.2.1; go_simp; with_reducible rfl)
            (try simp only [Act.put, nA, nB, nC])
            refine wpAnyM_take 3 (v := ?_) rfl (by kernel_rfl) (fun _ _ _ h => h) (Or.inl ⟨by rfl, ?_⟩) (by assumption) ?_
            rotate_left
            · (intro wx hSw; (try dsimp only at hSw); go_simp; (try with_reducible rfl))
            (try simp only [Act.put, nA, nB, nC])
            refine wpAnyM_take 4 (v := ?_) rfl (by kernel_rfl) (fun _ _ _ h => h) (Or.inl ⟨by rfl, ?_⟩) (by assumption) ?_
            rotate_left
            · (intro wx hSw; (try dsimp only at hSw); go_simp; (try with_reducible rfl))
            (try simp only [Act.put, nA, nB, nC])
            refine wpAnyM_take 5 (v := ?_) rfl (by kernel_rfl) (fun _ _ _ h => h) (Or.inl ⟨by rfl, ?_⟩) (by assumption) ?_
            rotate_left
            · (intro wx hSw; have q := hSw.2.2.1; go_simp; with_reducible rfl)
            (try simp only [Act.put, nA, nB, nC])
            refine wpAnyM_take 6 (v := ?_) rfl (by kernel_rfl) (fun _ _ _ h => h) (Or.inl ⟨by rfl, ?_⟩) (by assumption) ?_
            rotate_left
            · (intro wx hSw; (try dsimp only at hSw); go_simp; (try with_reducible rfl))
            (try simp only [Act.put, nA, nB, nC])
            refine wpAnyM_take 7 (v := ?_) rfl (by kernel_rfl) (fun _ _ _ h => h) (Or.inl ⟨by rfl, ?_⟩) (by assumption) ?_
            rotate_left
            · (intro wx hSw; (try dsimp only at hSw); go_simp; (try with_reducible rfl))
            (try simp only [Act.put, nA, nB, nC])
            refine wpAnyM_take 8 (v := ?_) rfl (by kernel_rfl) (fun _ _ _ h => h) (Or.inl ⟨by rfl, ?_⟩) (by assumption) ?_
            rotate_left
            · (intro wx hSw; have q := hSw.2.2.2; go_simp; with_reducible rfl)
            (try simp only [Act.put, nA, nB, nC])
            refine wpAnyM_oneS 9 rfl (by kernel_rfl) (fun K hK => ?_)
            go_simp
            (refine (fmul_any c (H4 || tuQH g RR j) g U 30 _ HS.out.ls.cell HS.out.ls.free).mono ?_); rintro e w5 ⟨rfl, hu⟩; have HS2 := Lib.hid (HS.out.upd' hu); clear HS hu; have HS := HS2; clear HS2
            (try dsimp only)
            (try simp only [Act.put, nA, nB, nC])
            clear hHeld
            refine hK.out _ _ ?_ (fun hHeld => ?_)
            · exact ⟨HS.out.b1, HS.out.b0, HS.out.pd.c1, (HS.out.ls.e1.cell hjl).trans (by rw [UJ.out])⟩
            clear hK K
            (try simp only [Act.put, nA, nB, nC])
            refine wpAnyM_take 10 (v := ?_) rfl (by kernel_rfl) (fun _ _ _ h => h) (Or.inl ⟨by rfl, ?_⟩) (by assumption) ?_
            rotate_left
            · (intro wx hSw; (try dsimp only at hSw); go_simp; (try with_reducible rfl))
            (try simp only [Act.put, nA, nB, nC])
            refine wpAnyM_doneL 11 rfl (by kernel_rfl) (by rfl) (by kernel_rfl) (run_store_i64 (.tmp 91) (.tmp 90) rfl b6 j rfl HS.out.ls.e0 hjl rfl) ?_
            (try simp only [Act.put, nA, nB, nC])
            refine wpAnyM_done (by kernel_rfl) ?_ _
            (have HE := Lib.hid (cr_round TS.out TH.out (HS.out.set (by intro e he; simp at he; rcases he with rfl | rfl | rfl; exact fun e => h65 e.symm; exact fun e => h63 e.symm; exact fun e => h64 e.symm) j (mulV g U 30))); clear HS; go_wp2_with fail; go_roundw; (case rel => exact ⟨j + 1, by omega, by omega, by go_num, HE⟩); (case measure => simp [intOf]; omega))
        · obtain rfl : j = 4 := by omega
          have e4 : decide (((4 : Nat) : Int) < 4) = false := by decide
          have P0 := R.out.ls.e0
          have q1 := R.out.b1
          go_upto_region 20 with fail
          refine wp_region_lit ?_
          refine wpList_val (v := ?_) rfl ?_ ?_
          rotate_left
          · (go_simp; (try (first | with_reducible rfl | (constructor <;> with_reducible rfl))))
          (try simp only [Act.put, nA, nB, nC])
          refine wpList_val (v := ?_) rfl ?_ ?_
          rotate_left
          · refine Eq.trans (run_load_row 42 (.tmp 17) (by rfl) (b6) (by rfl) _ _ _ _ (P0) Try.underlying42 rfl (iqt.trans (by rw [arrv_size]))) ?_; with_reducible rfl
          (try simp only [Act.put, nA, nB, nC])
          refine wpList_step (fun K hK => ?_)
          go_simp
          (refine (qunit_any c (H4 || tuQH g RR 4) (tuQ g RR 4) _ R.out.ls.cell R.out.ls.free).mono ?_); rintro e w6 ⟨rfl, hu⟩; have R2 := Lib.hid (R.out.upd' hu); clear hu R P0 q1; have P1 := R2.out.ls.e0
          (try dsimp only)
          (try simp only [Act.put, nA, nB, nC])
          refine hK _ _ ?_
          clear hK K
          refine wpList_done (w' := ?_) rfl ?_ ?_
          rotate_left
          · refine Eq.trans (run_store_row 42 (.tmp 17) (.tmp 94) (by rfl) (b6) (by rfl) (by rfl) (P1) (iqt.trans rfl)) ?_; with_reducible rfl
          (try simp only [Act.put, nA, nB, nC])
          refine wpList_nil ?_
          have R3 := Lib.hid (R2.out.row (by intro e he; simp at he; rcases he with rfl | rfl | rfl; exact fun e => h65 e.symm; exact fun e => h63 e.symm; exact fun e => h64 e.symm) (uniV (tuQ g RR 4)))
          generalize w6.setRow b6 (arrv 4 (uniV (tuQ g RR 4))) = W4 at *
          clear R2 P1
          have CO := Lib.hid (cr_coc R3.out)
          have q0 := R3.out.b0
          have q1 := R3.out.b1
          go_upto_region 21 with fail
          refine wp_region_lit ?_
          refine wpList_val (v := ?_) rfl ?_ ?_
          rotate_left
          · (go_simp; (try (first | with_reducible rfl | (constructor <;> with_reducible rfl))))
          (try simp only [Act.put, nA, nB, nC])
          refine wpList_val (v := ?_) rfl ?_ ?_
          rotate_left
          · (go_simp; (try (first | with_reducible rfl | (constructor <;> with_reducible rfl))))
          (try simp only [Act.put, nA, nB, nC])
          refine wpList_val (v := ?_) rfl ?_ ?_
          rotate_left
          · (go_simp; (try (first | with_reducible rfl | (constructor <;> with_reducible rfl))))
          (try simp only [Act.put, nA, nB, nC])
          refine wpList_step (fun K hK => ?_)
          go_simp
          (refine (each_out c (H4 || tuQH g RR 4 || uniH (tuQ g RR 4)) pb z g k L (.slice (some ⟨gb, 0, none⟩) k cp) 33 #[.pointer (some ⟨w.heap.size + 1, 0, none⟩), .pointer (some ⟨b3, 0, none⟩), .pointer (some ⟨w.heap.size, 0, none⟩), .pointer (some ⟨b4, 0, none⟩), .pointer (some ⟨b6, 0, none⟩)] (coF g DV DP (uniV (tuQ g RR 4))) (coH g DV DP (uniV (tuQ g RR 4))) _ R3.out.ls.cell R3.out.ls.free R3.out.pd (fun e => R3.out.n1 e.symm) R3.out.n2 hn cf_corr (fun w' h' O' hch hx hf => coclo_any c h' (w.heap.size + 1) b3 w.heap.size b4 b6 pb g DV DP (uniV (tuQ g RR 4)) O' w' hx hf (CO.out.1.kept hch.size (fun b hb => hch.block b (CO.out.1.ne b hb).2 (CO.out.2 b hb))))).mono ?_); rintro e w7 ⟨rfl, hr⟩; have R4 := Lib.hid (cr_done R3.out hr); clear hr
          (try dsimp only)
          (try simp only [Act.put, nA, nB, nC])
          refine hK _ _ ?_
          clear hK K
          refine wpList_nil ?_
          go_wp2_with fail
          go_ret
          exact ⟨rfl, R4.out⟩
end Go.Proofs.Ytpoiobgpggiebaa
