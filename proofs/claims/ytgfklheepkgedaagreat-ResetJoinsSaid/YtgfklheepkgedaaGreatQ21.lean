/- Contracts of the program's functions and plain laws, part 21: they hold for all arguments. -/
import Derived.Test.YtgfklheepkgedaaGreatQ20
import Derived.Test.YtgfklheepkgedaaGreatQ03
import Derived.Test.YtgfklheepkgedaaGreatQ04
import Derived.Test.YtgfklheepkgedaaGreatQ13
/- Contracts of the reference's scalars (11): Dot. -/
namespace Go.Proofs.YtgfklheepkgedaaGreat
open Go.RowKit
set_option maxRecDepth 100000
/-- What holds at the head of a round of the reference's Dot. -/
structure RDotR (c : Addr) (h : Bool) (A B : Nat → Int) (w : World) (k : Nat) (M : Nat) (m : Bool) (wr : World) : Prop where
  upd : Upd c (h || dotB A B k) w wr
  s : Wid wr w.heap.size M m
  e : sv m M = dotS A B k
  b : M ≤ k * 1329227995784915872903807060280344576
theorem adM_le (m n : Bool) (M N : Nat) : adM m n M N ≤ M + N := by unfold adM; split <;> (try split) <;> omega
set_option maxHeartbeats 4000000 in
theorem rdot30_in (c : Addr) (h : Bool) (A B : Nat → Int) (pa oa ca pb ob cb n : Nat) (w : World) (hc : w.cell? c = some (.bool h)) (hf : w.frozen? c = false)
    (hn : n ≤ 100)
    (hA : ∀ i, i < n → w.cell? ⟨pa, oa + i, none⟩ = some (.int .i64 (A i))) (hB : ∀ i, i < n → w.cell? ⟨pb, ob + i, none⟩ = some (.int .i64 (B i))) :
    Calls Tryz.prog 68 #[.pointer (some c), .int .i64 30, .slice (some ⟨pa, oa, none⟩) n ca, .slice (some ⟨pb, ob, none⟩) n cb] w fun e w' =>
      e = .returned (.int .i64 (satV (rsh (dotS A B n) 30))) ∧ Upd c (h || dotB A B n || satH (rsh (dotS A B n) 30)) w w' := by
  have hcb := World.block_lt_of_cell? w c hc
  have HA := Lib.hid hA
  have HB := Lib.hid hB
  have HC := Lib.hid hc
  have HF := Lib.hid hf
  have R0 : Hid (RDotR c h A B w 0 0 false (w.alloc (.cells #[.int .u64 0, .int .u64 0, .bool false] 137))) := by
    refine Lib.hid ⟨?_, ?_, by simp [sv, dotS], by omega⟩
    · rw [show (h || dotB A B 0) = h from by simp [dotB]]
      exact Upd.then (Upd.refl hc) (by (repeat (first | with_reducible exact Below.refl _ _ | with_reducible apply Below.drew | (with_reducible refine below_drewN ?_ _) | (with_reducible refine Below.alloc ?_ (by (try simp) <;> omega) _) | (with_reducible refine Below.setCell ?_ (by (try simp) <;> omega) _))))
    · have := Wid.new w 0 false
      rw [show hi64 0 = 0 by decide, show lo64 0 = 0 by decide] at this
      exact this
  clear hA hB hc hf
  go_enter Tryz.func68, Tryz.ntmps68
  go_upto_region 3 with fail
  generalize w.alloc (.cells #[.int .u64 0, .int .u64 0, .bool false] 137) = W0 at *
  go_wp2_with fail
  go_loopw [10] (fun i wr => ∃ (k M : Nat) (m : Bool), k ≤ n ∧ i = .int .i64 k ∧ Hid (RDotR c h A B w k M m wr)) (fun i _ => n - (intOf i).toNat)
  case atStart => exact ⟨0, 0, false, Nat.zero_le _, rfl, R0⟩
  case round =>
    obtain ⟨k, M, m, hk, rfl, R⟩ := hrel
    clear R0
    by_cases hlt : k < n
    · have q1 : decide (k < n) = true := by simpa using hlt
      have q2 : decide ((k : Int) < 100) = true := by simp; omega
      have a0 := HA.out k hlt
      have b0 := HB.out k hlt
      have u := R.out.upd
      have ra : wr.cell? ⟨pa, oa + k, none⟩ = some (.int .i64 (A k)) := (u.cell (World.block_lt_of_cell? w _ a0) (ne_of_cells HC.out a0)).trans a0
      have rb : wr.cell? ⟨pb, ob + k, none⟩ = some (.int .i64 (B k)) := (u.cell (World.block_lt_of_cell? w _ b0) (ne_of_cells HC.out b0)).trans b0
      have rc : wr.cell? c = some (.bool (h || dotB A B k)) := u.cellc HC.out
      have rf : wr.frozen? c = false := (u.frozen hcb).trans HF.out
      have hs := R.out.s
      obtain ⟨⟨s0, s1, s2⟩, t0, t1, t2⟩ := hs.c
      have la := World.block_lt_of_cell? wr _ ra
      have lb := World.block_lt_of_cell? wr _ rb
      have ls := hs.lt
      have na := ne_of_cells rc ra
      have nb := ne_of_cells rc rb
      have nS : ∀ o, c ≠ ⟨w.heap.size, o, none⟩ := fun o e => by rw [e] at hcb; simp at hcb
      obtain ⟨P, hP⟩ : ∃ P, (satV (A k)).natAbs * (satV (B k)).natAbs = P := ⟨_, rfl⟩
      obtain ⟨g, hg⟩ : ∃ g, sg2 (satV (A k)) (satV (B k)) = g := ⟨_, rfl⟩
      have hPb : P ≤ 1329227995784915872903807060280344576 := by rw [← hP]; exact abs_prod_bd _ _
      have hMb : M ≤ 132922799578491587290380706028034457600 := Nat.le_trans R.out.b (Nat.le_trans (Nat.mul_le_mul_right _ (by omega : k ≤ 100)) (by decide))
      have MU := Lib.hid (fun w => rmul_any (satV (A k)) (satV (B k)) (P : Int) w (satV_bd _).1 (satV_bd _).2 (satV_bd _).1 (satV_bd _).2 (by rw [← hP]; simp))
      rw [hg] at MU
      have AD := Lib.hid (fun w => radd_any M P m g w (by omega))
      have HE := Lib.hid (show sv (adS m g M P) (adM m g M P) = dotS A B (k + 1) ∧ adM m g M P ≤ (k + 1) * 1329227995784915872903807060280344576 by
        refine ⟨?_, ?_⟩
        · rw [sv_add, R.out.e, ← hg, sg2_mul _ _ P hP]; rfl
        · have := adM_le m g M P; have := R.out.b; omega)
      obtain ⟨N, hN⟩ : ∃ N, adM m g M P = N := ⟨_, rfl⟩
      obtain ⟨n', hn'⟩ : ∃ n', adS m g M P = n' := ⟨_, rfl⟩
      rw [hN, hn'] at AD HE
      obtain ⟨x, hx⟩ : ∃ x, satV (A k) = x := ⟨_, rfl⟩
      obtain ⟨y, hy⟩ : ∃ y, satV (B k) = y := ⟨_, rfl⟩
      rw [hx, hy] at MU
      have g1 : (wr.drew.setCell c (.bool (h || dotB A B k || satH (A k)))).cell? c = some (.bool (h || dotB A B k || satH (A k))) := World.cell?_setCell_same _ _ _ rc
      have U2 : Upd c (h || dotB A B k || satH (A k) || satH (B k)) wr ((wr.drew.setCell c (.bool (h || dotB A B k || satH (A k)))).setCell c (.bool (h || dotB A B k || satH (A k) || satH (B k)))) :=
        Upd.trans (Upd.after (Below.drew (Below.refl _ _)) (Upd.set c _ wr.drew)) (Upd.set c _ _)
      have H2 := Lib.hid U2
      have G1 := Lib.hid g1
      have HU := Lib.hid u
      have HS := Lib.hid hs
      clear U2 g1 u hs hP hg hPb hMb hN hn' a0 b0
      go_upto_region 5 with fail
      refine wp_region_M (fun w' => w'.cell? ⟨pa, oa + k, none⟩ = some (.int .i64 (A k)) ∧ w'.cell? ⟨pb, ob + k, none⟩ = some (.int .i64 (B k)) ∧ w'.cell? ⟨w.heap.size, 0, none⟩ = some (.int .u64 (hi64 (M : Int))) ∧ w'.cell? ⟨w.heap.size, 1, none⟩ = some (.int .u64 (lo64 (M : Int))) ∧ w'.cell? ⟨w.heap.size, 2, none⟩ = some (.bool m)) 15 (by kernel_rfl) ?_ (fun hHeld => ?_)
      · exact ⟨ra, rb, s0, s1, s2⟩
      refine wpAnyM_take 0 (v := ?_) rfl (by kernel_rfl) (fun _ _ _ h => h) (Or.inl ⟨by rfl, ?_⟩) (by assumption) ?_
      rotate_left
      · (intro wx hSw; (try dsimp only at hSw); go_simp; (try with_reducible rfl))
      (try simp only [Act.put, nA, nB, nC])
      refine wpAnyM_take 1 (v := ?_) rfl (by kernel_rfl) (fun _ _ _ h => h) (Or.inl ⟨by rfl, ?_⟩) (by assumption) ?_
      rotate_left
      · (intro wx hSw; (try dsimp only at hSw); go_simp; (try with_reducible rfl))
      (try simp only [Act.put, nA, nB, nC])
      refine wpAnyM_take 2 (v := ?_) rfl (by kernel_rfl) (fun _ _ _ h => h) (Or.inl ⟨by rfl, ?_⟩) (by assumption) ?_
      rotate_left
      · (intro wx hSw; (try dsimp only at hSw); go_simp; (try with_reducible rfl))
      (try simp only [Act.put, nA, nB, nC])
      refine wpAnyM_take 3 (v := ?_) rfl (by kernel_rfl) (fun _ _ _ h => h) (Or.inl ⟨by rfl, ?_⟩) (by assumption) ?_
      rotate_left
      · (intro wx hSw; (try dsimp only at hSw); go_simp; (try with_reducible rfl))
      (try simp only [Act.put, nA, nB, nC])
      refine wpAnyM_take 4 (v := ?_) rfl (by kernel_rfl) (fun _ _ _ h => h) (Or.inl ⟨by rfl, ?_⟩) (by assumption) ?_
      rotate_left
      · (intro wx hSw; (try dsimp only at hSw); go_simp; (try with_reducible rfl))
      (try simp only [Act.put, nA, nB, nC])
      refine wpAnyM_take 5 (v := ?_) rfl (by kernel_rfl) (fun _ _ _ h => h) (Or.inl ⟨by rfl, ?_⟩) (by assumption) ?_
      rotate_left
      · (intro wx hSw; (try dsimp only at hSw); go_simp; (try with_reducible rfl))
      (try simp only [Act.put, nA, nB, nC])
      refine wpAnyM_take 7 (v := ?_) rfl (by kernel_rfl) (fun _ _ _ h => h) (Or.inl ⟨by rfl, ?_⟩) (by assumption) ?_
      rotate_left
      · (intro wx hSw; (try dsimp only at hSw); go_simp; (try with_reducible rfl))
      (try simp only [Act.put, nA, nB, nC])
      refine wpAnyM_take 8 (v := ?_) rfl (by kernel_rfl) (fun _ _ _ h => h) (Or.inl ⟨by rfl, ?_⟩) (by assumption) ?_
      rotate_left
      · (intro wx hSw; (try dsimp only at hSw); go_simp; (try with_reducible rfl))
      (try simp only [Act.put, nA, nB, nC])
      refine wpAnyM_take 9 (v := ?_) rfl (by kernel_rfl) (fun _ _ _ h => h) (Or.inl ⟨by rfl, ?_⟩) (by assumption) ?_
      rotate_left
      · (intro wx hSw; (try dsimp only at hSw); go_simp; (try with_reducible rfl))
      (try simp only [Act.put, nA, nB, nC])
      refine wpAnyM_take 10 (v := ?_) rfl (by kernel_rfl) (fun _ _ _ h => h) (Or.inl ⟨by rfl, ?_⟩) (by assumption) ?_
      rotate_left
      · (intro wx hSw; (try dsimp only at hSw); go_simp; (try with_reducible rfl))
      (try simp only [Act.put, nA, nB, nC])
      refine wpAnyM_take 11 (v := ?_) rfl (by kernel_rfl) (fun _ _ _ h => h) (Or.inl ⟨by rfl, ?_⟩) (by assumption) ?_
      rotate_left
      · (intro wx hSw; (try dsimp only at hSw); go_simp; (try with_reducible rfl))
      (try simp only [Act.put, nA, nB, nC])
      refine wpAnyM_oneS 6 rfl (by kernel_rfl) (fun K hK => ?_)
      go_simp
      (refine (rsat_any c (h || dotB A B k) (A k) wr.drew rc rf).mono ?_); rintro e w' ⟨rfl, rfl⟩
      (try dsimp only)
      (try simp only [Act.put, nA, nB, nC])
      clear hHeld
      refine hK.out _ _ ?_ (fun hHeld => ?_)
      · simp [go_sem, *]
      clear hK K
      (try simp only [Act.put, nA, nB, nC])
      refine wpAnyM_oneS 12 rfl (by kernel_rfl) (fun K hK => ?_)
      go_simp
      (refine (rsat_any c (h || dotB A B k || satH (A k)) (B k) _ G1.out (by simp [rf])).mono ?_); rintro e w' ⟨rfl, rfl⟩
      (try dsimp only)
      (try simp only [Act.put, nA, nB, nC])
      clear hHeld
      refine hK.out _ _ ?_ (fun hHeld => ?_)
      · simp [go_sem, *]
      clear hK K
      (try simp only [Act.put, nA, nB, nC])
      refine wpAnyM_oneS 13 rfl (by kernel_rfl) (fun K hK => ?_)
      go_simp
      (refine (MU.out _).mono ?_); rintro e w3 ⟨rfl, hb3⟩; have U3 := Lib.hid (Upd.then H2.out hb3); have kp := (show _ ∧ _ ∧ _ ∧ _ ∧ _ from ⟨(U3.out.cell la na).trans ra, (U3.out.cell lb nb).trans rb, (U3.out.cell ls (nS 0)).trans s0, (U3.out.cell ls (nS 1)).trans s1, (U3.out.cell ls (nS 2)).trans s2⟩)
      (try dsimp only)
      (try simp only [Act.put, nA, nB, nC])
      clear hHeld
      refine hK.out _ _ ?_ (fun hHeld => ?_)
      · exact kp
      clear hK K
      (try simp only [Act.put, nA, nB, nC])
      refine wpAnyM_oneS 14 rfl (by kernel_rfl) (fun K hK => ?_)
      go_simp
      (refine (AD.out _).mono ?_); rintro e w4 ⟨rfl, hb4⟩; have U4 := Lib.hid (Upd.then U3.out hb4); have kp2 := (show _ ∧ _ ∧ _ ∧ _ ∧ _ from ⟨(U4.out.cell la na).trans ra, (U4.out.cell lb nb).trans rb, (U4.out.cell ls (nS 0)).trans s0, (U4.out.cell ls (nS 1)).trans s1, (U4.out.cell ls (nS 2)).trans s2⟩); have fz0 : w4.frozen? ⟨w.heap.size, 0, none⟩ = false := (U4.out.frozen ls).trans t0; have fz1 : w4.frozen? ⟨w.heap.size, 1, none⟩ = false := (U4.out.frozen ls).trans t1; have fz2 : w4.frozen? ⟨w.heap.size, 2, none⟩ = false := (U4.out.frozen ls).trans t2; obtain ⟨x0, x1, y0, y1, y2⟩ := kp2; have kp2 := And.intro x0 (And.intro x1 (And.intro y0 (And.intro y1 y2)))
      (try dsimp only)
      (try simp only [Act.put, nA, nB, nC])
      clear hHeld
      refine hK.out _ _ ?_ (fun hHeld => ?_)
      · exact kp2
      clear hK K
      (try simp only [Act.put, nA, nB, nC])
      refine wpAnyM_one 15 rfl (by kernel_rfl) (fun K hK => ?_)
      go_simp
      refine hK.out _ _ (.inl (by kernel_rfl)) (fun _ => ?_)
      clear hK K
      (try simp only [Act.put, nA, nB, nC])
      refine wpAnyM_done (by kernel_rfl) ?_ _
      go_wp2_with fail
      go_roundw
      case rel =>
        refine ⟨k + 1, N, n', by omega, by go_num, ?_⟩
        have U := HU.out.trans U4.out
        have W4 : Wid w4 w.heap.size (M : Int) m := (U4.out.block ls (by omega)).trans HS.out
        refine Lib.hid ⟨?_, W4.set _ _, HE.out.1, HE.out.2⟩
        rw [show (h || dotB A B (k + 1)) = (h || dotB A B k || satH (A k) || satH (B k)) from by simp [dotB, Bool.or_assoc]]
        exact ((U.setCell (Nat.le_refl _) _).setCell (Nat.le_refl _) _).setCell (Nat.le_refl _) _
      case measure => simp [intOf]; omega
    · have hkn : k = n := by omega
      subst hkn
      have q1 : decide (k < k) = false := by simp
      have hsum := R.out.e
      have u := R.out.upd
      have hMb : M ≤ 132922799578491587290380706028034457600 := Nat.le_trans R.out.b (Nat.le_trans (Nat.mul_le_mul_right _ (by omega : k ≤ 100)) (by decide))
      have rc : wr.cell? c = some (.bool (h || dotB A B k)) := u.cellc HC.out
      have rf : wr.frozen? c = false := (u.frozen hcb).trans HF.out
      obtain ⟨⟨s0, s1, s2⟩, _⟩ := R.out.s.c
      have SH := Lib.hid (fun w => rshift30_any M m w (by omega))
      have HU := Lib.hid u
      have hwr := HU.out.size
      have HSUM := Lib.hid (show rsh (dotS A B k) 30 = sv m (shM M 30) by rw [← hsum, rsh_sv])
      clear u hMb hsum
      go_wp2_with fail
      refine (SH.out _).mono ?_; rintro e w5 ⟨rfl, hb5⟩
      go_wp2_with fail
      refine (rend2_any c (h || dotB A B k) (shM M 30) m _ ((hb5.cell (by omega)).trans rc) ((hb5.frozen (by omega)).trans rf)).mono ?_; rintro e w6 ⟨rfl, hu6⟩
      go_wp2_with fail
      go_ret
      rw [HSUM.out]
      exact ⟨rfl, HU.out.trans (Upd.after hb5 hu6)⟩
/-- The reference's Dot, as the program's. -/
theorem rdot_any (c : Addr) (h : Bool) (A B : Nat → Int) (pa oa ca pb ob cb n : Nat) (w : World) (hc : w.cell? c = some (.bool h)) (hf : w.frozen? c = false)
    (hn : n ≤ 100)
    (hA : ∀ i, i < n → w.cell? ⟨pa, oa + i, none⟩ = some (.int .i64 (A i))) (hB : ∀ i, i < n → w.cell? ⟨pb, ob + i, none⟩ = some (.int .i64 (B i))) :
    Calls Tryz.prog 68 #[.pointer (some c), .int .i64 30, .slice (some ⟨pa, oa, none⟩) n ca, .slice (some ⟨pb, ob, none⟩) n cb] w fun e w' =>
      e = .returned (.int .i64 (dotV 30 A B n)) ∧ Upd c (h || dotH 30 A B n) w w' := by
  have hs : ¬ ((30 : Int) < 0 ∨ 120 < (30 : Int)) := by omega
  have e1 : dotV 30 A B n = satV (rsh (dotS A B n) 30) := by simp only [dotV, if_neg hs]; rfl
  have e2 : (h || dotH 30 A B n) = (h || dotB A B n || satH (rsh (dotS A B n) 30)) := by simp only [dotH, if_neg hs, Bool.or_assoc]; rfl
  rw [e1, e2]
  exact rdot30_in c h A B pa oa ca pb ob cb n w hc hf hn hA hB
end Go.Proofs.YtgfklheepkgedaaGreat
/- A call's own blocks as a list: what holds of them all, whatever is called between. -/
namespace Go.Proofs.YtgfklheepkgedaaGreat
open Go.RowKit
theorem ls_row_other {w : World} {g : Nat} (cs : Array Value) {p : Addr} (h : p.block ≠ g) : (w.setRow g cs).cell? p = w.cell? p ∧ (w.setRow g cs).frozen? p = w.frozen? p := by
  have e := Go.setRow_other w g p.block cs h
  constructor
  · simp only [World.cell?, e]
  · simp only [World.frozen?, e]
/-- A block of numbers: where, of what type, how many, which. -/
structure Lx where
  b : Nat
  T : Nat
  n : Nat
  F : Nat → Int
/-- The flag at c is h; the blocks E lie from w's end to top. -/
structure LsR (c : Addr) (h : Bool) (E : List Lx) (top : Nat) (w wr : World) : Prop where
  upd : Upd c h w wr
  cell : wr.cell? c = some (.bool h)
  free : wr.frozen? c = false
  cb : c.block < w.heap.size
  ex : ∀ e, e ∈ E → Blk wr e.b e.T e.n e.F ∧ w.heap.size ≤ e.b ∧ e.b < top
  lim : w.heap.size ≤ top
  le : top ≤ wr.heap.size
section
variable {c : Addr} {h h' : Bool} {E : List Lx} {top : Nat} {w wr w' : World}
theorem LsR.upd' (s : LsR c h E top w wr) (u : Upd c h' wr w') : LsR c h' E top w w' := by
  have hcb := s.cb
  have hl := s.lim
  exact ⟨s.upd.trans u, u.cellc s.cell, (u.frozen (World.block_lt_of_cell? _ _ s.cell)).trans s.free, s.cb, fun e he => ⟨(s.ex e he).1.upd u (by have := (s.ex e he).2.1; omega), (s.ex e he).2⟩, s.lim, Nat.le_trans s.le u.size⟩
theorem LsR.low (s : LsR c h E top w wr) (u : Below top wr w') (hz : top ≤ w'.heap.size) : LsR c h E top w w' := by
  have hcb := s.cb
  have hl := s.lim
  exact ⟨s.upd.then' (u.mono (by omega)), (u.cell (by omega)).trans s.cell, (u.frozen (by omega)).trans s.free, s.cb, fun e he => ⟨(u.block _ (s.ex e he).2.2).trans (s.ex e he).1, (s.ex e he).2⟩, s.lim, hz⟩
theorem LsR.down (s : LsR c h E top w wr) (u : Below wr.heap.size wr w') : LsR c h E top w w' := s.low (u.mono s.le) (Nat.le_trans s.le u.size)
theorem LsR.drew (s : LsR c h E top w wr) : LsR c h E top w wr.drew := s.down (Below.drew (Below.refl _ _))
theorem LsR.alloc (s : LsR c h E top w wr) (o : Obj) : LsR c h E top w (wr.alloc o) := s.down ((Below.refl _ _).alloc (Nat.le_refl _) o)
/-- One more block, laid at the end. -/
theorem LsR.lay (s : LsR c h E top w wr) (T n : Nat) (F : Nat → Int) : LsR c h (⟨wr.heap.size, T, n, F⟩ :: E) (wr.heap.size + 1) w (wr.alloc (.cells (arrv n F) T)) := by
  have k := s.alloc (.cells (arrv n F) T)
  have hl := s.lim
  have hle := s.le
  refine ⟨k.upd, k.cell, k.free, k.cb, fun e he => ?_, by omega, by simp⟩
  rcases List.mem_cons.1 he with rfl | he
  · exact ⟨Blk.new _ _ _ _, by simp only; omega, by simp⟩
  · have := k.ex e he
    exact ⟨this.1, this.2.1, by omega⟩
/-- .. and filled. -/
theorem LsR.put (s : LsR c h E top w wr) (T n : Nat) (G F : Nat → Int) : LsR c h (⟨wr.heap.size, T, n, F⟩ :: E) (wr.heap.size + 1) w ((wr.alloc (.cells (arrv n G) T)).setRow wr.heap.size (arrv n F)) := by
  have hl := s.lim
  have hle := s.le
  have b : Below wr.heap.size wr ((wr.alloc (.cells (arrv n G) T)).setRow wr.heap.size (arrv n F)) := below_row ((Below.refl _ _).alloc (Nat.le_refl _) _) (Nat.le_refl _) _
  have k := s.down b
  refine ⟨k.upd, k.cell, k.free, k.cb, fun e he => ?_, by omega, by rw [setRow_size]; simp⟩
  rcases List.mem_cons.1 he with rfl | he
  · exact ⟨(Blk.new _ _ _ _).setRow F, by simp only; omega, by simp⟩
  · have := k.ex e he
    exact ⟨this.1, this.2.1, by omega⟩
theorem LsR.e0 {b T n : Nat} {F : Nat → Int} (s : LsR c h (⟨b, T, n, F⟩ :: E) top w wr) : Blk wr b T n F := (s.ex _ (.head _)).1
theorem LsR.tail {a : Lx} (s : LsR c h (a :: E) top w wr) : LsR c h E top w wr := ⟨s.upd, s.cell, s.free, s.cb, fun e he => s.ex e (.tail _ he), s.lim, s.le⟩
theorem LsR.e1 {a : Lx} {b T n : Nat} {F : Nat → Int} (s : LsR c h (a :: ⟨b, T, n, F⟩ :: E) top w wr) : Blk wr b T n F := s.tail.e0
theorem LsR.e2 {a a2 : Lx} {b T n : Nat} {F : Nat → Int} (s : LsR c h (a :: a2 :: ⟨b, T, n, F⟩ :: E) top w wr) : Blk wr b T n F := s.tail.e1
theorem LsR.e3 {a a2 a3 : Lx} {b T n : Nat} {F : Nat → Int} (s : LsR c h (a :: a2 :: a3 :: ⟨b, T, n, F⟩ :: E) top w wr) : Blk wr b T n F := s.tail.e2
theorem LsR.e4 {a a2 a3 a4 : Lx} {b T n : Nat} {F : Nat → Int} (s : LsR c h (a :: a2 :: a3 :: a4 :: ⟨b, T, n, F⟩ :: E) top w wr) : Blk wr b T n F := s.tail.e3
theorem LsR.e5 {a a2 a3 a4 a5 : Lx} {b T n : Nat} {F : Nat → Int} (s : LsR c h (a :: a2 :: a3 :: a4 :: a5 :: ⟨b, T, n, F⟩ :: E) top w wr) : Blk wr b T n F := s.tail.e4
theorem LsR.e6 {a a2 a3 a4 a5 a6 : Lx} {b T n : Nat} {F : Nat → Int} (s : LsR c h (a :: a2 :: a3 :: a4 :: a5 :: a6 :: ⟨b, T, n, F⟩ :: E) top w wr) : Blk wr b T n F := s.tail.e5
theorem LsR.e7 {a a2 a3 a4 a5 a6 a7 : Lx} {b T n : Nat} {F : Nat → Int} (s : LsR c h (a :: a2 :: a3 :: a4 :: a5 :: a6 :: a7 :: ⟨b, T, n, F⟩ :: E) top w wr) : Blk wr b T n F := s.tail.e6
/-- The first block's row stored. -/
theorem LsR.row {b T n : Nat} {F : Nat → Int} (s : LsR c h (⟨b, T, n, F⟩ :: E) top w wr) (hn : ∀ e, e ∈ E → e.b ≠ b) (G : Nat → Int) : LsR c h (⟨b, T, n, G⟩ :: E) top w (wr.setRow b (arrv n G)) := by
  have h0 := s.ex _ (.head _)
  have hcb := s.cb
  have hb : w.heap.size ≤ b := h0.2.1
  refine ⟨s.upd.then' (below_row (Below.refl _ _) hb _), by rw [(ls_row_other _ (by omega)).1]; exact s.cell, by rw [(ls_row_other _ (by omega)).2]; exact s.free, s.cb, fun e he => ?_, s.lim, by rw [setRow_size]; exact s.le⟩
  rcases List.mem_cons.1 he with rfl | he
  · exact ⟨h0.1.setRow G, h0.2⟩
  · have := s.ex e (.tail _ he)
    exact ⟨this.1.setRow_other _ (hn e he), this.2⟩
/-- The first block's cell stored. -/
theorem LsR.set {b T n : Nat} {F : Nat → Int} (s : LsR c h (⟨b, T, n, F⟩ :: E) top w wr) (hn : ∀ e, e ∈ E → e.b ≠ b) (i : Nat) (x : Int) : LsR c h (⟨b, T, n, Go.Proofs.YtgfklheepkgedaaGreat.upd F i x⟩ :: E) top w (wr.setCell ⟨b, i, none⟩ (.int .i64 x)) := by
  have h0 := s.ex _ (.head _)
  have hcb := s.cb
  have hb : w.heap.size ≤ b := h0.2.1
  have hne : (⟨b, i, none⟩ : Addr) ≠ c := fun e => by rw [← e] at hcb; simp only at hcb; omega
  refine ⟨s.upd.setCell hb _, (World.cell?_setCell_other _ _ _ _ hne).trans s.cell, (World.frozen?_setCell ..).trans s.free, s.cb, fun e he => ?_, s.lim, by rw [setCell_size]; exact s.le⟩
  rcases List.mem_cons.1 he with rfl | he
  · exact ⟨h0.1.set i x, h0.2⟩
  · have := s.ex e (.tail _ he)
    exact ⟨this.1.other (hn e he) _, this.2⟩
theorem LsR.congr {b T n : Nat} {F G : Nat → Int} (s : LsR c h (⟨b, T, n, F⟩ :: E) top w wr) (eh : h = h') (e : ∀ i, i < n → F i = G i) : LsR c h' (⟨b, T, n, G⟩ :: E) top w wr := by
  subst eh
  refine ⟨s.upd, s.cell, s.free, s.cb, fun x hx => ?_, s.lim, s.le⟩
  rcases List.mem_cons.1 hx with rfl | hx
  · exact ⟨s.e0.congr e, (s.ex _ (.head _)).2⟩
  · exact s.ex x (.tail _ hx)
/-- The blocks in another order, or some of them. -/
theorem LsR.sub {E' : List Lx} (s : LsR c h E top w wr) (hs : ∀ e, e ∈ E' → e ∈ E) : LsR c h E' top w wr := ⟨s.upd, s.cell, s.free, s.cb, fun e he => s.ex e (hs e he), s.lim, s.le⟩
/-- A block that was laid somewhere behind the others, filled. -/
theorem LsR.fill {b T n : Nat} {f : Nat → Int} (s : LsR c h E top w wr) (hb : Blk wr b T n f) (ht : top ≤ b) (F : Nat → Int) : LsR c h (⟨b, T, n, F⟩ :: E) (b + 1) w (wr.setRow b (arrv n F)) := by
  have hl := s.lim
  have k := s.low (below_row (Below.refl _ _) ht (arrv n F)) (by rw [setRow_size]; exact s.le)
  refine ⟨k.upd, k.cell, k.free, k.cb, fun e he => ?_, by omega, by rw [setRow_size]; exact hb.lt⟩
  rcases List.mem_cons.1 he with rfl | he
  · exact ⟨hb.setRow F, by simp only; omega, by simp⟩
  · have := k.ex e he
    exact ⟨this.1, this.2.1, by omega⟩
theorem ls_nil (hc : w.cell? c = some (.bool h)) (hf : w.frozen? c = false) : LsR c h [] w.heap.size w w := ⟨Upd.refl hc, hc, hf, World.block_lt_of_cell? w c hc, (fun e he => by cases he), Nat.le_refl _, Nat.le_refl _⟩
end
end Go.Proofs.YtgfklheepkgedaaGreat
/- A region that draws its order, where several operations may come first: the orders that have done the same set of operations are walked once from there ('share'). -/
namespace Go.Proofs.YtgfklheepkgedaaGreat
open Go
/-- What is asked at several places, shown once: T is found at the first of them. -/
inductive Shr (T : Prop) : Prop where
  | mk (out : T) : Shr T
theorem Shr.out {T : Prop} : Shr T → T := fun ⟨h⟩ => h
theorem share {T G : Prop} (h : Shr T → G) (p : T) : G := h ⟨p⟩
theorem wpAnyM_fourS {P : Program} {ops : Array Oper} {Q : Exit → Act → World → Prop} {md : Region.Mode} {L : Nat} {S : World → Prop} (i j l m : Nat) {oi oj ol om : Oper} {fuel : Nat} {listed : Array Bool} {a : Act} {w : World} (hi : ops.toList[i]? = some oi) (hj : ops.toList[j]? = some oj) (hl : ops.toList[l]? = some ol) (hm : ops.toList[m]? = some om) (hr : Region.ready md ops listed = [i, j, l, m])
    (h1 : ∀ K : Act → World → Prop, Shut (∀ a w, S w → (S w → wpAnyM P md ops Q S L fuel (listed.setIfInBounds i true) a w) → K a w) →
      if Region.wanted oi (yielded ops a.tmps) = true then Oper.wp P oi a w K Q else K (a.put oi.dst undef) w)
    (h2 : ∀ K : Act → World → Prop, Shut (∀ a w, S w → (S w → wpAnyM P md ops Q S L fuel (listed.setIfInBounds j true) a w) → K a w) →
      if Region.wanted oj (yielded ops a.tmps) = true then Oper.wp P oj a w K Q else K (a.put oj.dst undef) w)
    (h3 : ∀ K : Act → World → Prop, Shut (∀ a w, S w → (S w → wpAnyM P md ops Q S L fuel (listed.setIfInBounds l true) a w) → K a w) →
      if Region.wanted ol (yielded ops a.tmps) = true then Oper.wp P ol a w K Q else K (a.put ol.dst undef) w)
    (h4 : ∀ K : Act → World → Prop, Shut (∀ a w, S w → (S w → wpAnyM P md ops Q S L fuel (listed.setIfInBounds m true) a w) → K a w) →
      if Region.wanted om (yielded ops a.tmps) = true then Oper.wp P om a w K Q else K (a.put om.dst undef) w) :
    wpAnyM P md ops Q S L (fuel + 1) listed a w := by
  have hi' : ops[i]? = some oi := by rwa [Array.getElem?_toList] at hi
  have hj' : ops[j]? = some oj := by rwa [Array.getElem?_toList] at hj
  have hl' : ops[l]? = some ol := by rwa [Array.getElem?_toList] at hl
  have hm' : ops[m]? = some om := by rwa [Array.getElem?_toList] at hm
  refine ⟨fun h0 => (by rw [hr] at h0; cases h0), fun k hk => ?_⟩
  rw [hr] at hk
  have hk' : k = i ∨ k = j ∨ k = l ∨ k = m := by simpa using hk
  rcases hk' with rfl | rfl | rfl | rfl
  · exact wpOp_step hi' (fun K' hK => h1 K' (fun a w hS hW => hK a w ⟨.inr hS, hW hS⟩))
  · exact wpOp_step hj' (fun K' hK => h2 K' (fun a w hS hW => hK a w ⟨.inr hS, hW hS⟩))
  · exact wpOp_step hl' (fun K' hK => h3 K' (fun a w hS hW => hK a w ⟨.inr hS, hW hS⟩))
  · exact wpOp_step hm' (fun K' hK => h4 K' (fun a w hS hW => hK a w ⟨.inr hS, hW hS⟩))
end Go.Proofs.YtgfklheepkgedaaGreat
