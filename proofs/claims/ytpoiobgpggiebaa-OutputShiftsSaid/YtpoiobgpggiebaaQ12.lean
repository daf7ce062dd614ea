/- Contracts of the program's functions and plain laws, part 12: they hold for all arguments. -/
import Derived.Test.YtpoiobgpggiebaaQ11
/- Contracts of package rot (2): Of. -/
namespace Go.Proofs.Ytpoiobgpggiebaa
open Go.RowKit
set_option maxRecDepth 100000
/-- The blocks of rot.Of. -/
structure RoR (c : Addr) (h : Bool) (Q : Nat → Int) (w wr : World) : Prop where
  upd : Upd c h w wr
  ptr : wr.cell? ⟨w.heap.size, 0, none⟩ = some (.pointer (some c))
  a : Blk wr (w.heap.size + 1) 42 4 Q
  r : Blk wr (w.heap.size + 1 + 1) 92 9 (fun _ => 0)
  cell : wr.cell? c = some (.bool h)
  free : wr.frozen? c = false
  cb : c.block < w.heap.size
theorem RoR.upd' {c : Addr} {h h' : Bool} {Q : Nat → Int} {w wr w' : World} (s : RoR c h Q w wr) (u : Upd c h' wr w') : RoR c h' Q w w' := by
  have hcb := s.cb
  exact ⟨s.upd.trans u, by rw [u.cell (World.block_lt_of_cell? _ _ s.ptr) (fun e => by rw [e] at hcb; exact absurd hcb (by simp))]; exact s.ptr, s.a.upd u (by omega), s.r.upd u (by omega), u.cellc s.cell, (u.frozen (World.block_lt_of_cell? _ _ s.cell)).trans s.free, s.cb⟩
theorem RoR.down {c : Addr} {h : Bool} {Q : Nat → Int} {w wr w' : World} (s : RoR c h Q w wr) (u : Below wr.heap.size wr w') : RoR c h Q w w' :=
  ⟨s.upd.then u, (u.cell (World.block_lt_of_cell? _ _ s.ptr)).trans s.ptr, s.a.below u, s.r.below u, (u.cell (World.block_lt_of_cell? _ _ s.cell)).trans s.cell, (u.frozen (World.block_lt_of_cell? _ _ s.cell)).trans s.free, s.cb⟩
theorem RoR.drew {c : Addr} {h : Bool} {Q : Nat → Int} {w wr : World} (s : RoR c h Q w wr) : RoR c h Q w wr.drew := s.down (Below.drew (Below.refl _ _))
theorem RoR.set {c : Addr} {h : Bool} {Q : Nat → Int} {w wr : World} (s : RoR c h Q w wr) (i : Nat) (v : Int) : RoR c h (Go.Proofs.Ytpoiobgpggiebaa.upd Q i v) w (wr.setCell ⟨w.heap.size + 1, i, none⟩ (.int .i64 v)) := by
  have hcb := s.cb
  exact ⟨s.upd.setCell (by simp) _, by rw [World.cell?_setCell_other _ _ _ _ (by simp)]; exact s.ptr, s.a.set _ _, s.r.other (by simp) _, by rw [World.cell?_setCell_other _ _ _ _ (fun e => by rw [← e] at hcb; dsimp only at hcb; omega)]; exact s.cell, by rw [World.frozen?_setCell]; exact s.free, s.cb⟩
theorem RoR.congr {c : Addr} {h h' : Bool} {Q R : Nat → Int} {w wr : World} (s : RoR c h Q w wr) (eh : h = h') (e : ∀ i, i < 4 → Q i = R i) : RoR c h' R w wr := by
  subst eh; exact ⟨s.upd, s.ptr, s.a.congr e, s.r, s.cell, s.free, s.cb⟩
theorem RoR.qc {c : Addr} {h : Bool} {Q : Nat → Int} {w wr : World} (s : RoR c h Q w wr) : QcR c h w.heap.size (w.heap.size + 1) Q wr wr := ⟨Upd.refl s.cell, s.ptr, s.a, s.cell, s.free⟩
theorem ro_start (c : Addr) (h : Bool) (Q : Nat → Int) (w : World) (hc : w.cell? c = some (.bool h)) (hf : w.frozen? c = false) :
    RoR c h Q w (((w.alloc (.cells #[.pointer (some c)] 27)).alloc (.cells (arrv 4 Q) 42)).alloc (.cells #[.int .i64 0, .int .i64 0, .int .i64 0, .int .i64 0, .int .i64 0, .int .i64 0, .int .i64 0, .int .i64 0, .int .i64 0] 92)) := by
  have hcb := World.block_lt_of_cell? w c hc
  have bl : Below w.heap.size w (((w.alloc (.cells #[.pointer (some c)] 27)).alloc (.cells (arrv 4 Q) 42)).alloc (.cells #[.int .i64 0, .int .i64 0, .int .i64 0, .int .i64 0, .int .i64 0, .int .i64 0, .int .i64 0, .int .i64 0, .int .i64 0] 92)) := by (repeat (first | with_reducible exact Below.refl _ _ | with_reducible apply Below.drew | (with_reducible refine below_drewN ?_ _) | (with_reducible refine Below.alloc ?_ (by (try simp) <;> omega) _) | (with_reducible refine Below.setCell ?_ (by (try simp) <;> omega) _)))
  refine ⟨Upd.then (Upd.refl hc) bl, ?_, ?_, ?_, (bl.cell hcb).trans hc, (bl.frozen hcb).trans hf, hcb⟩
  · simp [go_sem]
  · exact (Blk.new1 w _ _ 4 Q).alloc _
  · rw [zm9]; exact blk_new2 w _ _ _ 9 _
set_option maxHeartbeats 16000000 in
theorem rof_any (c : Addr) (h : Bool) (Q : Nat → Int) (w : World) (hc : w.cell? c = some (.bool h)) (hf : w.frozen? c = false) :
    Calls Try.prog 65 #[.pointer (some c), .agg (arrv 4 Q)] w fun e w' => e = .returned (.agg (arrv 9 (roV Q))) ∧ Upd c (h || roH Q) w w' := by
  have hmf : ∀ (fn : Fn) (first cap : Array Value) (w : World), (Instr.makeFunc fn first cap).run Try.prog w = .ok (.func fn first cap) w := fun _ _ _ _ => rfl
  have S0 := Lib.hid (ro_start c h Q w hc hf)
  clear hc hf
  go_enter Try.func65, Try.ntmps65
  go_upto_region 2 with fail
  generalize ((w.alloc (.cells #[.pointer (some c)] 27)).alloc (.cells (arrv 4 Q) 42)).alloc (.cells #[.int .i64 0, .int .i64 0, .int .i64 0, .int .i64 0, .int .i64 0, .int .i64 0, .int .i64 0, .int .i64 0, .int .i64 0] 92) = W0 at *
  go_wp2_with fail
  go_loopw [8] (fun i wr => ∃ k : Nat, k ≤ 4 ∧ i = .int .i64 k ∧ Hid (RoR c (h || orB (fun i => satH (Q i)) k) (satK Q k) w wr)) (fun i _ => 4 - (intOf i).toNat)
  case atStart => exact ⟨0, by omega, rfl, Lib.hid (S0.out.congr (by simp [orB]) fun i hi => by simp [satK])⟩
  case round =>
    obtain ⟨k, hk, rfl, R⟩ := hrel
    clear S0
    by_cases hlt : k < 4
    · have d1 : decide ((k : Int) < 4) = true := by simp; omega
      have k0 : (0 : Int) ≤ (k : Int) := Int.natCast_nonneg _
      have k1 : (k : Int) < 4 := by omega
      have hv : satK Q k k = Q k := by simp [satK]
      have HV := Lib.hid hv
      obtain ⟨x, hx⟩ : ∃ x, Q k = x := ⟨_, rfl⟩
      have HX := Lib.hid (And.intro (hv.trans hx) hx)
      obtain ⟨H, hH⟩ : ∃ x, (h || orB (fun i => satH (Q i)) k) = x := ⟨_, rfl⟩
      have HH := Lib.hid (show (h || orB (fun i => satH (Q i)) (k + 1)) = (H || satH x) by rw [← hH, ← hx]; simp [orB, Bool.or_assoc])
      rw [hH] at R
      clear hv hx hH HV
      go_upto_region 4 with fail
      have HS := Lib.hid R.out.drew
      clear R
      refine wp_region_M (fun w' => w'.cell? ⟨w.heap.size, 0, none⟩ = some (.pointer (some c)) ∧ w'.cell? ⟨w.heap.size + 1, k, none⟩ = some (.int .i64 x)) 7 (by kernel_rfl) ?_ (fun hHeld => ?_)
      · exact ⟨HS.out.ptr, by rw [← HX.out.1]; exact HS.out.a.cell (by omega)⟩
      refine wpAnyM_take 0 (v := ?_) rfl (by kernel_rfl) (fun _ _ _ h => h) (Or.inl ⟨by rfl, ?_⟩) (by assumption) ?_
      rotate_left
      · (intro wx hSw; (try dsimp only at hSw); go_simp; (try with_reducible rfl))
      (try simp only [Act.put, nA, nB, nC])
      refine wpAnyM_take 1 (v := ?_) rfl (by kernel_rfl) (fun _ _ _ h => h) (Or.inl ⟨by rfl, ?_⟩) (by assumption) ?_
      rotate_left
      · (intro wx hSw; (try dsimp only at hSw); go_simp; (try with_reducible rfl))
      (try simp only [Act.put, nA, nB, nC])
      refine wpAnyM_take 2 (v := ?_) rfl (by kernel_rfl) (fun _ _ _ h => h) (Or.inl ⟨by rfl, ?_⟩) (by assumption) ?_
      rotate_left
      · (intro wx hSw; (try dsimp only at hSw); go_simp; (try with_reducible rfl))
      (try simp only [Act.put, nA, nB, nC])
      refine wpAnyM_take 3 (v := ?_) rfl (by kernel_rfl) (fun _ _ _ h => h) (Or.inl ⟨by rfl, ?_⟩) (by assumption) ?_
      rotate_left
      · (intro wx hSw; (try dsimp only at hSw); go_simp; (try with_reducible rfl))
      (try simp only [Act.put, nA, nB, nC])
      refine wpAnyM_take 4 (v := ?_) rfl (by kernel_rfl) (fun _ _ _ h => h) (Or.inl ⟨by rfl, ?_⟩) (by assumption) ?_
      rotate_left
      · (intro wx hSw; (try dsimp only at hSw); go_simp; (try with_reducible rfl))
      (try simp only [Act.put, nA, nB, nC])
      refine wpAnyM_oneS 5 rfl (by kernel_rfl) (fun K hK => ?_)
      go_simp
      (refine (sat_upd c H x _ HS.out.cell HS.out.free).mono ?_); rintro e w1 ⟨rfl, hu⟩; have HT := Lib.hid (HS.out.upd' hu); clear HS hu; have HS := HT; clear HT; have af := HS.out.a.free k; have ac := HS.out.a.cell (i := k) (by omega)
      (try dsimp only)
      (try simp only [Act.put, nA, nB, nC])
      clear hHeld
      refine hK.out _ _ ?_ (fun hHeld => ?_)
      · exact ⟨HS.out.ptr, by rw [← HX.out.1]; exact HS.out.a.cell (by omega)⟩
      clear hK K
      (try simp only [Act.put, nA, nB, nC])
      refine wpAnyM_take 6 (v := ?_) rfl (by kernel_rfl) (fun _ _ _ h => h) (Or.inl ⟨by rfl, ?_⟩) (by assumption) ?_
      rotate_left
      · (intro wx hSw; (try dsimp only at hSw); go_simp; (try with_reducible rfl))
      (try simp only [Act.put, nA, nB, nC])
      refine wpAnyM_one 7 rfl (by kernel_rfl) (fun K hK => ?_)
      go_simp
      refine hK.out _ _ (.inl (by kernel_rfl)) (fun _ => ?_)
      clear hK K
      (try simp only [Act.put, nA, nB, nC])
      refine wpAnyM_done (by kernel_rfl) ?_ _
      clear af ac
      go_wp2_with fail
      go_roundw
      case rel =>
        refine ⟨k + 1, by omega, by go_num, Lib.hid ((HS.out.set k (satV x)).congr HH.out.symm fun i hi => ?_)⟩
        simp only [Go.Proofs.Ytpoiobgpggiebaa.upd, satK]
        by_cases h1 : i = k
        · subst h1; rw [if_pos rfl, if_pos (by omega), HX.out.2]
        · rw [if_neg h1]; split <;> split <;> first | rfl | omega
      case measure => simp [intOf]; omega
    · have hk4 : k = 4 := by omega
      subst hk4
      have d1 : decide (((4 : Nat) : Int) < 4) = false := by simp
      have bb : ∀ i, -1152921504606846976 ≤ satA Q i ∧ satA Q i ≤ 1152921504606846976 := fun i => satV_bd _
      have R2 := R.out.congr rfl (R := satA Q) fun i hi => by simp only [satK, satA]; rw [if_pos hi]
      obtain ⟨F, hF⟩ : ∃ x, satA Q = x := ⟨_, rfl⟩
      obtain ⟨H1, hH1⟩ : ∃ x, (h || orB (fun i => satH (Q i)) 4) = x := ⟨_, rfl⟩
      rw [hF, hH1] at R2
      rw [hF] at bb
      have HE := Lib.hid (show (fun k => roN F k) = roV Q ∧ (H1 || orB (roNH F) 9) = (h || roH Q) by
        rw [← hF, ← hH1]; exact ⟨rfl, by unfold roH; simp [Bool.or_assoc]⟩)
      have R3 := Lib.hid R2
      clear R2 R hF hH1
      have e0 : IntKind.i64.wrap (-(F 0)) = -(F 0) := IntWalk.i64_in _ (by have := bb 0; omega)
      have p0 : ∀ i, IntKind.i64.wrap (1 * F i) = F i := fun i => by rw [Int.one_mul]; exact IntWalk.i64_in _ (by have := bb i; omega)
      have n0 : ∀ i, IntKind.i64.wrap (-1 * F i) = -F i := fun i => by rw [Int.neg_one_mul]; exact IntWalk.i64_in _ (by have := bb i; omega)
      have P0 := Lib.hid p0
      have N0 := Lib.hid n0
      obtain ⟨g0, h0⟩ : ∃ x, F 0 = x := ⟨_, rfl⟩
      obtain ⟨g1, h1⟩ : ∃ x, F 1 = x := ⟨_, rfl⟩
      obtain ⟨g2, h2⟩ : ∃ x, F 2 = x := ⟨_, rfl⟩
      obtain ⟨g3, h3⟩ : ∃ x, F 3 = x := ⟨_, rfl⟩
      rw [h0] at e0
      have HG := Lib.hid (And.intro (And.intro h0 h1) (And.intro h2 h3))
      clear h0 h1 h2 h3 bb p0 n0
      go_upto_region 8 with fail
      have HS := Lib.hid R3.out.drew
      clear R3
      refine wp_region_M (fun w' => w'.cell? ⟨w.heap.size + 1, 0, none⟩ = some (.int .i64 g0) ∧ w'.cell? ⟨w.heap.size + 1, 1, none⟩ = some (.int .i64 g1) ∧ w'.cell? ⟨w.heap.size + 1, 2, none⟩ = some (.int .i64 g2) ∧ w'.cell? ⟨w.heap.size + 1, 3, none⟩ = some (.int .i64 g3)) 70 (by kernel_rfl) ?_ (fun hHeld => ?_)
      · exact ⟨by rw [← HG.out.1.1]; exact HS.out.a.cell (by decide), by rw [← HG.out.1.2]; exact HS.out.a.cell (by decide), by rw [← HG.out.2.1]; exact HS.out.a.cell (by decide), by rw [← HG.out.2.2]; exact HS.out.a.cell (by decide)⟩
      refine wpAnyM_take 0 (v := ?_) rfl (by kernel_rfl) (fun _ _ _ h => h) (Or.inl ⟨by rfl, ?_⟩) (by assumption) ?_
      rotate_left
      · (intro wx hSw; (try dsimp only at hSw); go_simp; (try with_reducible rfl))
      (try simp only [Act.put, nA, nB, nC])
      refine wpAnyM_take 2 (v := ?_) rfl (by kernel_rfl) (fun _ _ _ h => h) (Or.inl ⟨by rfl, ?_⟩) (by assumption) ?_
      rotate_left
      · (intro wx hSw; (try dsimp only at hSw); go_simp; (try with_reducible rfl))
      (try simp only [Act.put, nA, nB, nC])
      refine wpAnyM_take 3 (v := ?_) rfl (by kernel_rfl) (fun _ _ _ h => h) (Or.inl ⟨by rfl, ?_⟩) (by assumption) ?_
      rotate_left
      · (intro wx hSw; (try dsimp only at hSw); go_simp; (try with_reducible rfl))
      (try simp only [Act.put, nA, nB, nC])
      refine wpAnyM_take 4 (v := ?_) rfl (by kernel_rfl) (fun _ _ _ h => h) (Or.inl ⟨by rfl, ?_⟩) (by assumption) ?_
      rotate_left
      · (intro wx hSw; (try dsimp only at hSw); go_simp; (try with_reducible rfl))
      (try simp only [Act.put, nA, nB, nC])
      refine wpAnyM_take 5 (v := ?_) rfl (by kernel_rfl) (fun _ _ _ h => h) (Or.inl ⟨by rfl, ?_⟩) (by assumption) ?_
      rotate_left
      · (intro wx hSw; (try dsimp only at hSw); go_simp; (try with_reducible rfl))
      (try simp only [Act.put, nA, nB, nC])
      refine wpAnyM_take 6 (v := ?_) rfl (by kernel_rfl) (fun _ _ _ h => h) (Or.inl ⟨by rfl, ?_⟩) (by assumption) ?_
      rotate_left
      · (intro wx hSw; (try dsimp only at hSw); go_simp; (try with_reducible rfl))
      (try simp only [Act.put, nA, nB, nC])
      refine wpAnyM_take 7 (v := ?_) rfl (by kernel_rfl) (fun _ _ _ h => h) (Or.inl ⟨by rfl, ?_⟩) (by assumption) ?_
      rotate_left
      · (intro wx hSw; (try dsimp only at hSw); go_simp; (try with_reducible rfl))
      (try simp only [Act.put, nA, nB, nC])
      refine wpAnyM_take 8 (v := ?_) rfl (by kernel_rfl) (fun _ _ _ h => h) (Or.inl ⟨by rfl, ?_⟩) (by assumption) ?_
      rotate_left
      · (intro wx hSw; (try dsimp only at hSw); go_simp; (try with_reducible rfl))
      (try simp only [Act.put, nA, nB, nC])
      refine wpAnyM_take 9 (v := ?_) rfl (by kernel_rfl) (fun _ _ _ h => h) (Or.inl ⟨by rfl, ?_⟩) (by assumption) ?_
      rotate_left
      · (intro wx hSw; (try dsimp only at hSw); go_simp; (try with_reducible rfl))
      (try simp only [Act.put, nA, nB, nC])
      refine wpAnyM_take 10 (v := ?_) rfl (by kernel_rfl) (fun _ _ _ h => h) (Or.inl ⟨by rfl, ?_⟩) (by assumption) ?_
      rotate_left
      · (intro wx hSw; (try dsimp only at hSw); go_simp; (try with_reducible rfl))
      (try simp only [Act.put, nA, nB, nC])
      refine wpAnyM_take 11 (v := ?_) rfl (by kernel_rfl) (fun _ _ _ h => h) (Or.inl ⟨by rfl, ?_⟩) (by assumption) ?_
      rotate_left
      · (intro wx hSw; (try dsimp only at hSw); go_simp; (try with_reducible rfl))
      (try simp only [Act.put, nA, nB, nC])
      refine wpAnyM_take 13 (v := ?_) rfl (by kernel_rfl) (fun _ _ _ h => h) (Or.inl ⟨by rfl, ?_⟩) (by assumption) ?_
      rotate_left
      · (intro wx hSw; (try dsimp only at hSw); go_simp; (try with_reducible rfl))
      (try simp only [Act.put, nA, nB, nC])
      refine wpAnyM_take 14 (v := ?_) rfl (by kernel_rfl) (fun _ _ _ h => h) (Or.inl ⟨by rfl, ?_⟩) (by assumption) ?_
      rotate_left
      · (intro wx hSw; (try dsimp only at hSw); go_simp; (try with_reducible rfl))
      (try simp only [Act.put, nA, nB, nC])
      refine wpAnyM_take 15 (v := ?_) rfl (by kernel_rfl) (fun _ _ _ h => h) (Or.inl ⟨by rfl, ?_⟩) (by assumption) ?_
      rotate_left
      · (intro wx hSw; (try dsimp only at hSw); go_simp; (try with_reducible rfl))
      (try simp only [Act.put, nA, nB, nC])
      refine wpAnyM_take 16 (v := ?_) rfl (by kernel_rfl) (fun _ _ _ h => h) (Or.inl ⟨by rfl, ?_⟩) (by assumption) ?_
      rotate_left
      · (intro wx hSw; (try dsimp only at hSw); go_simp; (try with_reducible rfl))
      (try simp only [Act.put, nA, nB, nC])
      refine wpAnyM_take 17 (v := ?_) rfl (by kernel_rfl) (fun _ _ _ h => h) (Or.inl ⟨by rfl, ?_⟩) (by assumption) ?_
      rotate_left
      · (intro wx hSw; (try dsimp only at hSw); go_simp; (try with_reducible rfl))
      (try simp only [Act.put, nA, nB, nC])
      refine wpAnyM_take 18 (v := ?_) rfl (by kernel_rfl) (fun _ _ _ h => h) (Or.inl ⟨by rfl, ?_⟩) (by assumption) ?_
      rotate_left
      · (intro wx hSw; (try dsimp only at hSw); go_simp; (try with_reducible rfl))
      (try simp only [Act.put, nA, nB, nC])
      refine wpAnyM_take 19 (v := ?_) rfl (by kernel_rfl) (fun _ _ _ h => h) (Or.inl ⟨by rfl, ?_⟩) (by assumption) ?_
      rotate_left
      · (intro wx hSw; (try dsimp only at hSw); go_simp; (try with_reducible rfl))
      (try simp only [Act.put, nA, nB, nC])
      refine wpAnyM_take 20 (v := ?_) rfl (by kernel_rfl) (fun _ _ _ h => h) (Or.inl ⟨by rfl, ?_⟩) (by assumption) ?_
      rotate_left
      · (intro wx hSw; (try dsimp only at hSw); go_simp; (try with_reducible rfl))
      (try simp only [Act.put, nA, nB, nC])
      refine wpAnyM_take 21 (v := ?_) rfl (by kernel_rfl) (fun _ _ _ h => h) (Or.inl ⟨by rfl, ?_⟩) (by assumption) ?_
      rotate_left
      · (intro wx hSw; (try dsimp only at hSw); go_simp; (try with_reducible rfl))
      (try simp only [Act.put, nA, nB, nC])
      refine wpAnyM_take 23 (v := ?_) rfl (by kernel_rfl) (fun _ _ _ h => h) (Or.inl ⟨by rfl, ?_⟩) (by assumption) ?_
      rotate_left
      · (intro wx hSw; (try dsimp only at hSw); go_simp; (try with_reducible rfl))
      (try simp only [Act.put, nA, nB, nC])
      refine wpAnyM_take 24 (v := ?_) rfl (by kernel_rfl) (fun _ _ _ h => h) (Or.inl ⟨by rfl, ?_⟩) (by assumption) ?_
      rotate_left
      · (intro wx hSw; (try dsimp only at hSw); go_simp; (try with_reducible rfl))
      (try simp only [Act.put, nA, nB, nC])
      refine wpAnyM_take 25 (v := ?_) rfl (by kernel_rfl) (fun _ _ _ h => h) (Or.inl ⟨by rfl, ?_⟩) (by assumption) ?_
      rotate_left
      · (intro wx hSw; (try dsimp only at hSw); go_simp; (try with_reducible rfl))
      (try simp only [Act.put, nA, nB, nC])
      refine wpAnyM_take 26 (v := ?_) rfl (by kernel_rfl) (fun _ _ _ h => h) (Or.inl ⟨by rfl, ?_⟩) (by assumption) ?_
      rotate_left
      · (intro wx hSw; (try dsimp only at hSw); go_simp; (try with_reducible rfl))
      (try simp only [Act.put, nA, nB, nC])
      refine wpAnyM_take 27 (v := ?_) rfl (by kernel_rfl) (fun _ _ _ h => h) (Or.inl ⟨by rfl, ?_⟩) (by assumption) ?_
      rotate_left
      · (intro wx hSw; (try dsimp only at hSw); go_simp; (try with_reducible rfl))
      (try simp only [Act.put, nA, nB, nC])
      refine wpAnyM_take 28 (v := ?_) rfl (by kernel_rfl) (fun _ _ _ h => h) (Or.inl ⟨by rfl, ?_⟩) (by assumption) ?_
      rotate_left
      · (intro wx hSw; (try dsimp only at hSw); go_simp; (try with_reducible rfl))
      (try simp only [Act.put, nA, nB, nC])
      refine wpAnyM_take 29 (v := ?_) rfl (by kernel_rfl) (fun _ _ _ h => h) (Or.inl ⟨by rfl, ?_⟩) (by assumption) ?_
      rotate_left
      · (intro wx hSw; (try dsimp only at hSw); go_simp; (try with_reducible rfl))
      (try simp only [Act.put, nA, nB, nC])
      refine wpAnyM_take 30 (v := ?_) rfl (by kernel_rfl) (fun _ _ _ h => h) (Or.inl ⟨by rfl, ?_⟩) (by assumption) ?_
      rotate_left
      · (intro wx hSw; (try dsimp only at hSw); go_simp; (try with_reducible rfl))
      (try simp only [Act.put, nA, nB, nC])
      refine wpAnyM_take 31 (v := ?_) rfl (by kernel_rfl) (fun _ _ _ h => h) (Or.inl ⟨by rfl, ?_⟩) (by assumption) ?_
      rotate_left
      · (intro wx hSw; (try dsimp only at hSw); go_simp; (try with_reducible rfl))
      (try simp only [Act.put, nA, nB, nC])
      refine wpAnyM_take 33 (v := ?_) rfl (by kernel_rfl) (fun _ _ _ h => h) (Or.inl ⟨by rfl, ?_⟩) (by assumption) ?_
      rotate_left
      · (intro wx hSw; (try dsimp only at hSw); go_simp; (try with_reducible rfl))
      (try simp only [Act.put, nA, nB, nC])
      refine wpAnyM_take 35 (v := ?_) rfl (by kernel_rfl) (fun _ _ _ h => h) (Or.inl ⟨by rfl, ?_⟩) (by assumption) ?_
      rotate_left
      · (intro wx hSw; (try dsimp only at hSw); go_simp; (try with_reducible rfl))
      (try simp only [Act.put, nA, nB, nC])
      refine wpAnyM_take 36 (v := ?_) rfl (by kernel_rfl) (fun _ _ _ h => h) (Or.inl ⟨by rfl, ?_⟩) (by assumption) ?_
      rotate_left
      · (intro wx hSw; (try dsimp only at hSw); go_simp; (try with_reducible rfl))
      (try simp only [Act.put, nA, nB, nC])
      refine wpAnyM_take 37 (v := ?_) rfl (by kernel_rfl) (fun _ _ _ h => h) (Or.inl ⟨by rfl, ?_⟩) (by assumption) ?_
      rotate_left
      · (intro wx hSw; (try dsimp only at hSw); go_simp; (try with_reducible rfl))
      (try simp only [Act.put, nA, nB, nC])
      refine wpAnyM_take 38 (v := ?_) rfl (by kernel_rfl) (fun _ _ _ h => h) (Or.inl ⟨by rfl, ?_⟩) (by assumption) ?_
      rotate_left
      · (intro wx hSw; (try dsimp only at hSw); go_simp; (try with_reducible rfl))
      (try simp only [Act.put, nA, nB, nC])
      refine wpAnyM_take 39 (v := ?_) rfl (by kernel_rfl) (fun _ _ _ h => h) (Or.inl ⟨by rfl, ?_⟩) (by assumption) ?_
      rotate_left
      · (intro wx hSw; (try dsimp only at hSw); go_simp; (try with_reducible rfl))
      (try simp only [Act.put, nA, nB, nC])
      refine wpAnyM_take 40 (v := ?_) rfl (by kernel_rfl) (fun _ _ _ h => h) (Or.inl ⟨by rfl, ?_⟩) (by assumption) ?_
      rotate_left
      · (intro wx hSw; (try dsimp only at hSw); go_simp; (try with_reducible rfl))
      (try simp only [Act.put, nA, nB, nC])
      refine wpAnyM_take 41 (v := ?_) rfl (by kernel_rfl) (fun _ _ _ h => h) (Or.inl ⟨by rfl, ?_⟩) (by assumption) ?_
      rotate_left
      · (intro wx hSw; (try dsimp only at hSw); go_simp; (try with_reducible rfl))
      (try simp only [Act.put, nA, nB, nC])
      refine wpAnyM_take 42 (v := ?_) rfl (by kernel_rfl) (fun _ _ _ h => h) (Or.inl ⟨by rfl, ?_⟩) (by assumption) ?_
      rotate_left
      · (intro wx hSw; (try dsimp only at hSw); go_simp; (try with_reducible rfl))
      (try simp only [Act.put, nA, nB, nC])
      refine wpAnyM_take 43 (v := ?_) rfl (by kernel_rfl) (fun _ _ _ h => h) (Or.inl ⟨by rfl, ?_⟩) (by assumption) ?_
      rotate_left
      · (intro wx hSw; (try dsimp only at hSw); go_simp; (try with_reducible rfl))
      (try simp only [Act.put, nA, nB, nC])
      refine wpAnyM_take 44 (v := ?_) rfl (by kernel_rfl) (fun _ _ _ h => h) (Or.inl ⟨by rfl, ?_⟩) (by assumption) ?_
      rotate_left
      · (intro wx hSw; (try dsimp only at hSw); go_simp; (try with_reducible rfl))
      (try simp only [Act.put, nA, nB, nC])
      refine wpAnyM_take 46 (v := ?_) rfl (by kernel_rfl) (fun _ _ _ h => h) (Or.inl ⟨by rfl, ?_⟩) (by assumption) ?_
      rotate_left
      · (intro wx hSw; (try dsimp only at hSw); go_simp; (try with_reducible rfl))
      (try simp only [Act.put, nA, nB, nC])
      refine wpAnyM_take 47 (v := ?_) rfl (by kernel_rfl) (fun _ _ _ h => h) (Or.inl ⟨by rfl, ?_⟩) (by assumption) ?_
      rotate_left
      · (intro wx hSw; (try dsimp only at hSw); go_simp; (try with_reducible rfl))
      (try simp only [Act.put, nA, nB, nC])
      refine wpAnyM_take 48 (v := ?_) rfl (by kernel_rfl) (fun _ _ _ h => h) (Or.inl ⟨by rfl, ?_⟩) (by assumption) ?_
      rotate_left
      · (intro wx hSw; (try dsimp only at hSw); go_simp; (try with_reducible rfl))
      (try simp only [Act.put, nA, nB, nC])
      refine wpAnyM_take 49 (v := ?_) rfl (by kernel_rfl) (fun _ _ _ h => h) (Or.inl ⟨by rfl, ?_⟩) (by assumption) ?_
      rotate_left
      · (intro wx hSw; (try dsimp only at hSw); go_simp; (try with_reducible rfl))
      (try simp only [Act.put, nA, nB, nC])
      refine wpAnyM_take 50 (v := ?_) rfl (by kernel_rfl) (fun _ _ _ h => h) (Or.inl ⟨by rfl, ?_⟩) (by assumption) ?_
      rotate_left
      · (intro wx hSw; (try dsimp only at hSw); go_simp; (try with_reducible rfl))
      (try simp only [Act.put, nA, nB, nC])
      refine wpAnyM_take 51 (v := ?_) rfl (by kernel_rfl) (fun _ _ _ h => h) (Or.inl ⟨by rfl, ?_⟩) (by assumption) ?_
      rotate_left
      · (intro wx hSw; (try dsimp only at hSw); go_simp; (try with_reducible rfl))
      (try simp only [Act.put, nA, nB, nC])
      refine wpAnyM_take 52 (v := ?_) rfl (by kernel_rfl) (fun _ _ _ h => h) (Or.inl ⟨by rfl, ?_⟩) (by assumption) ?_
      rotate_left
      · (intro wx hSw; (try dsimp only at hSw); go_simp; (try with_reducible rfl))
      (try simp only [Act.put, nA, nB, nC])
      refine wpAnyM_take 53 (v := ?_) rfl (by kernel_rfl) (fun _ _ _ h => h) (Or.inl ⟨by rfl, ?_⟩) (by assumption) ?_
      rotate_left
      · (intro wx hSw; (try dsimp only at hSw); go_simp; (try with_reducible rfl))
      (try simp only [Act.put, nA, nB, nC])
      refine wpAnyM_take 54 (v := ?_) rfl (by kernel_rfl) (fun _ _ _ h => h) (Or.inl ⟨by rfl, ?_⟩) (by assumption) ?_
      rotate_left
      · (intro wx hSw; (try dsimp only at hSw); go_simp; (try with_reducible rfl))
      (try simp only [Act.put, nA, nB, nC])
      refine wpAnyM_take 55 (v := ?_) rfl (by kernel_rfl) (fun _ _ _ h => h) (Or.inl ⟨by rfl, ?_⟩) (by assumption) ?_
      rotate_left
      · (intro wx hSw; (try dsimp only at hSw); go_simp; (try with_reducible rfl))
      (try simp only [Act.put, nA, nB, nC])
      refine wpAnyM_take 57 (v := ?_) rfl (by kernel_rfl) (fun _ _ _ h => h) (Or.inl ⟨by rfl, ?_⟩) (by assumption) ?_
      rotate_left
      · (intro wx hSw; (try dsimp only at hSw); go_simp; (try with_reducible rfl))
      (try simp only [Act.put, nA, nB, nC])
      refine wpAnyM_take 58 (v := ?_) rfl (by kernel_rfl) (fun _ _ _ h => h) (Or.inl ⟨by rfl, ?_⟩) (by assumption) ?_
      rotate_left
      · (intro wx hSw; (try dsimp only at hSw); go_simp; (try with_reducible rfl))
      (try simp only [Act.put, nA, nB, nC])
      refine wpAnyM_take 59 (v := ?_) rfl (by kernel_rfl) (fun _ _ _ h => h) (Or.inl ⟨by rfl, ?_⟩) (by assumption) ?_
      rotate_left
      · (intro wx hSw; (try dsimp only at hSw); go_simp; (try with_reducible rfl))
      (try simp only [Act.put, nA, nB, nC])
      refine wpAnyM_take 60 (v := ?_) rfl (by kernel_rfl) (fun _ _ _ h => h) (Or.inl ⟨by rfl, ?_⟩) (by assumption) ?_
      rotate_left
      · (intro wx hSw; (try dsimp only at hSw); go_simp; (try with_reducible rfl))
      (try simp only [Act.put, nA, nB, nC])
      refine wpAnyM_take 61 (v := ?_) rfl (by kernel_rfl) (fun _ _ _ h => h) (Or.inl ⟨by rfl, ?_⟩) (by assumption) ?_
      rotate_left
      · (intro wx hSw; (try dsimp only at hSw); go_simp; (try with_reducible rfl))
      (try simp only [Act.put, nA, nB, nC])
      refine wpAnyM_take 62 (v := ?_) rfl (by kernel_rfl) (fun _ _ _ h => h) (Or.inl ⟨by rfl, ?_⟩) (by assumption) ?_
      rotate_left
      · (intro wx hSw; (try dsimp only at hSw); go_simp; (try with_reducible rfl))
      (try simp only [Act.put, nA, nB, nC])
      refine wpAnyM_take 63 (v := ?_) rfl (by kernel_rfl) (fun _ _ _ h => h) (Or.inl ⟨by rfl, ?_⟩) (by assumption) ?_
      rotate_left
      · (intro wx hSw; (try dsimp only at hSw); go_simp; (try with_reducible rfl))
      (try simp only [Act.put, nA, nB, nC])
      refine wpAnyM_take 64 (v := ?_) rfl (by kernel_rfl) (fun _ _ _ h => h) (Or.inl ⟨by rfl, ?_⟩) (by assumption) ?_
      rotate_left
      · (intro wx hSw; (try dsimp only at hSw); go_simp; (try with_reducible rfl))
      (try simp only [Act.put, nA, nB, nC])
      refine wpAnyM_take 65 (v := ?_) rfl (by kernel_rfl) (fun _ _ _ h => h) (Or.inl ⟨by rfl, ?_⟩) (by assumption) ?_
      rotate_left
      · (intro wx hSw; (try dsimp only at hSw); go_simp; (try with_reducible rfl))
      (try simp only [Act.put, nA, nB, nC])
      refine wpAnyM_take 67 (v := ?_) rfl (by kernel_rfl) (fun _ _ _ h => h) (Or.inl ⟨by rfl, ?_⟩) (by assumption) ?_
      rotate_left
      · (intro wx hSw; (try dsimp only at hSw); go_simp; (try with_reducible rfl))
      (try simp only [Act.put, nA, nB, nC])
      refine wpAnyM_oneS 1 rfl (by kernel_rfl) (fun K hK => ?_)
      go_simp
      (refine (rsq_any c _ w.heap.size (w.heap.size + 1) F 1 1 (-1) (-1) _ _ _ _ _ HS.out.qc (P0.out 0) (P0.out 1) (N0.out 2) (N0.out 3)).mono ?_); rintro e w1 ⟨rfl, hu⟩; have HT := Lib.hid (HS.out.upd' hu); clear HS hu; have HS := HT; clear HT
      (try dsimp only)
      (try simp only [Act.put, nA, nB, nC])
      clear hHeld
      refine hK.out _ _ ?_ (fun hHeld => ?_)
      · exact ⟨by rw [← HG.out.1.1]; exact HS.out.a.cell (by decide), by rw [← HG.out.1.2]; exact HS.out.a.cell (by decide), by rw [← HG.out.2.1]; exact HS.out.a.cell (by decide), by rw [← HG.out.2.2]; exact HS.out.a.cell (by decide)⟩
      clear hK K
      (try simp only [Act.put, nA, nB, nC])
      refine wpAnyM_oneS 12 rfl (by kernel_rfl) (fun K hK => ?_)
      go_simp
      (refine (rtw_any c _ w.heap.size (w.heap.size + 1) F g1 g2 (-g0) g3 _ HS.out.qc).mono ?_); rintro e w2 ⟨rfl, hu⟩; have HT := Lib.hid (HS.out.upd' hu); clear HS hu; have HS := HT; clear HT
      (try dsimp only)
      (try simp only [Act.put, nA, nB, nC])
      clear hHeld
      refine hK.out _ _ ?_ (fun hHeld => ?_)
      · exact ⟨by rw [← HG.out.1.1]; exact HS.out.a.cell (by decide), by rw [← HG.out.1.2]; exact HS.out.a.cell (by decide), by rw [← HG.out.2.1]; exact HS.out.a.cell (by decide), by rw [← HG.out.2.2]; exact HS.out.a.cell (by decide)⟩
      clear hK K
      (try simp only [Act.put, nA, nB, nC])
      refine wpAnyM_oneS 22 rfl (by kernel_rfl) (fun K hK => ?_)
      go_simp
      (refine (rtw_any c _ w.heap.size (w.heap.size + 1) F g1 g3 g0 g2 _ HS.out.qc).mono ?_); rintro e w3 ⟨rfl, hu⟩; have HT := Lib.hid (HS.out.upd' hu); clear HS hu; have HS := HT; clear HT
      (try dsimp only)
      (try simp only [Act.put, nA, nB, nC])
      clear hHeld
      refine hK.out _ _ ?_ (fun hHeld => ?_)
      · exact ⟨by rw [← HG.out.1.1]; exact HS.out.a.cell (by decide), by rw [← HG.out.1.2]; exact HS.out.a.cell (by decide), by rw [← HG.out.2.1]; exact HS.out.a.cell (by decide), by rw [← HG.out.2.2]; exact HS.out.a.cell (by decide)⟩
      clear hK K
      (try simp only [Act.put, nA, nB, nC])
      refine wpAnyM_oneS 32 rfl (by kernel_rfl) (fun K hK => ?_)
      go_simp
      (refine (rtw_any c _ w.heap.size (w.heap.size + 1) F g1 g2 g0 g3 _ HS.out.qc).mono ?_); rintro e w4 ⟨rfl, hu⟩; have HT := Lib.hid (HS.out.upd' hu); clear HS hu; have HS := HT; clear HT
      (try dsimp only)
      (try simp only [Act.put, nA, nB, nC])
      clear hHeld
      refine hK.out _ _ ?_ (fun hHeld => ?_)
      · exact ⟨by rw [← HG.out.1.1]; exact HS.out.a.cell (by decide), by rw [← HG.out.1.2]; exact HS.out.a.cell (by decide), by rw [← HG.out.2.1]; exact HS.out.a.cell (by decide), by rw [← HG.out.2.2]; exact HS.out.a.cell (by decide)⟩
      clear hK K
      (try simp only [Act.put, nA, nB, nC])
      refine wpAnyM_oneS 34 rfl (by kernel_rfl) (fun K hK => ?_)
      go_simp
      (refine (rsq_any c _ w.heap.size (w.heap.size + 1) F 1 (-1) 1 (-1) _ _ _ _ _ HS.out.qc (P0.out 0) (N0.out 1) (P0.out 2) (N0.out 3)).mono ?_); rintro e w5 ⟨rfl, hu⟩; have HT := Lib.hid (HS.out.upd' hu); clear HS hu; have HS := HT; clear HT
      (try dsimp only)
      (try simp only [Act.put, nA, nB, nC])
      clear hHeld
      refine hK.out _ _ ?_ (fun hHeld => ?_)
      · exact ⟨by rw [← HG.out.1.1]; exact HS.out.a.cell (by decide), by rw [← HG.out.1.2]; exact HS.out.a.cell (by decide), by rw [← HG.out.2.1]; exact HS.out.a.cell (by decide), by rw [← HG.out.2.2]; exact HS.out.a.cell (by decide)⟩
      clear hK K
      (try simp only [Act.put, nA, nB, nC])
      refine wpAnyM_oneS 45 rfl (by kernel_rfl) (fun K hK => ?_)
      go_simp
      (refine (rtw_any c _ w.heap.size (w.heap.size + 1) F g2 g3 (-g0) g1 _ HS.out.qc).mono ?_); rintro e w6 ⟨rfl, hu⟩; have HT := Lib.hid (HS.out.upd' hu); clear HS hu; have HS := HT; clear HT
      (try dsimp only)
      (try simp only [Act.put, nA, nB, nC])
      clear hHeld
      refine hK.out _ _ ?_ (fun hHeld => ?_)
      · exact ⟨by rw [← HG.out.1.1]; exact HS.out.a.cell (by decide), by rw [← HG.out.1.2]; exact HS.out.a.cell (by decide), by rw [← HG.out.2.1]; exact HS.out.a.cell (by decide), by rw [← HG.out.2.2]; exact HS.out.a.cell (by decide)⟩
      clear hK K
      (try simp only [Act.put, nA, nB, nC])
      refine wpAnyM_oneS 56 rfl (by kernel_rfl) (fun K hK => ?_)
      go_simp
      (refine (rtw_any c _ w.heap.size (w.heap.size + 1) F g1 g3 (-g0) g2 _ HS.out.qc).mono ?_); rintro e w7 ⟨rfl, hu⟩; have HT := Lib.hid (HS.out.upd' hu); clear HS hu; have HS := HT; clear HT
      (try dsimp only)
      (try simp only [Act.put, nA, nB, nC])
      clear hHeld
      refine hK.out _ _ ?_ (fun hHeld => ?_)
      · exact ⟨by rw [← HG.out.1.1]; exact HS.out.a.cell (by decide), by rw [← HG.out.1.2]; exact HS.out.a.cell (by decide), by rw [← HG.out.2.1]; exact HS.out.a.cell (by decide), by rw [← HG.out.2.2]; exact HS.out.a.cell (by decide)⟩
      clear hK K
      (try simp only [Act.put, nA, nB, nC])
      refine wpAnyM_oneS 66 rfl (by kernel_rfl) (fun K hK => ?_)
      go_simp
      (refine (rtw_any c _ w.heap.size (w.heap.size + 1) F g2 g3 g0 g1 _ HS.out.qc).mono ?_); rintro e w8 ⟨rfl, hu⟩; have HT := Lib.hid (HS.out.upd' hu); clear HS hu; have HS := HT; clear HT
      (try dsimp only)
      (try simp only [Act.put, nA, nB, nC])
      clear hHeld
      refine hK.out _ _ ?_ (fun hHeld => ?_)
      · exact ⟨by rw [← HG.out.1.1]; exact HS.out.a.cell (by decide), by rw [← HG.out.1.2]; exact HS.out.a.cell (by decide), by rw [← HG.out.2.1]; exact HS.out.a.cell (by decide), by rw [← HG.out.2.2]; exact HS.out.a.cell (by decide)⟩
      clear hK K
      (try simp only [Act.put, nA, nB, nC])
      refine wpAnyM_oneS 68 rfl (by kernel_rfl) (fun K hK => ?_)
      go_simp
      (refine (rsq_any c _ w.heap.size (w.heap.size + 1) F 1 (-1) (-1) 1 _ _ _ _ _ HS.out.qc (P0.out 0) (N0.out 1) (N0.out 2) (P0.out 3)).mono ?_); rintro e w9 ⟨rfl, hu⟩; have HT := Lib.hid (HS.out.upd' hu); clear HS hu; have HS := HT; clear HT
      (try dsimp only)
      (try simp only [Act.put, nA, nB, nC])
      clear hHeld
      refine hK.out _ _ ?_ (fun hHeld => ?_)
      · exact ⟨by rw [← HG.out.1.1]; exact HS.out.a.cell (by decide), by rw [← HG.out.1.2]; exact HS.out.a.cell (by decide), by rw [← HG.out.2.1]; exact HS.out.a.cell (by decide), by rw [← HG.out.2.2]; exact HS.out.a.cell (by decide)⟩
      clear hK K
      (try simp only [Act.put, nA, nB, nC])
      refine wpAnyM_take 69 (v := ?_) rfl (by kernel_rfl) (fun _ _ _ h => h) (Or.inl ⟨by rfl, ?_⟩) (by assumption) ?_
      rotate_left
      · (intro wx hSw; refine Eq.trans (run_build_m9 (.tmp 22) (.tmp 33) (.tmp 43) (.tmp 53) (.tmp 55) (.tmp 66) (.tmp 77) (.tmp 87) (.tmp 89) (by rfl) (by rfl) (by rfl) (by rfl) (by rfl) (by rfl) (by rfl) (by rfl) (by rfl) (by rfl)) ?_; with_reducible rfl)
      (try simp only [Act.put, nA, nB, nC])
      refine wpAnyM_one 70 rfl (by kernel_rfl) (fun K hK => ?_)
      go_simp; rw [if_pos (arrv_size _ _), run_storeCells_row _ HS.out.r]; go_simp
      refine hK.out _ _ (.inl (by kernel_rfl)) (fun _ => ?_)
      clear hK K
      (try simp only [Act.put, nA, nB, nC])
      refine wpAnyM_done (by kernel_rfl) ?_ _
      have HV := Lib.hid (show arrv 9 (m9 (dotV 30 F (q4 (F 0) (F 1) (-F 2) (-F 3)) 4) (dotV 30 (q4 (g1) (g1) (-g0) (-g0)) (q4 (g2) (g2) (g3) (g3)) 4) (dotV 30 (q4 (g1) (g1) (g0) (g0)) (q4 (g3) (g3) (g2) (g2)) 4) (dotV 30 (q4 (g1) (g1) (g0) (g0)) (q4 (g2) (g2) (g3) (g3)) 4) (dotV 30 F (q4 (F 0) (-F 1) (F 2) (-F 3)) 4) (dotV 30 (q4 (g2) (g2) (-g0) (-g0)) (q4 (g3) (g3) (g1) (g1)) 4) (dotV 30 (q4 (g1) (g1) (-g0) (-g0)) (q4 (g3) (g3) (g2) (g2)) 4) (dotV 30 (q4 (g2) (g2) (g0) (g0)) (q4 (g3) (g3) (g1) (g1)) 4) (dotV 30 F (q4 (F 0) (-F 1) (-F 2) (F 3)) 4)) = arrv 9 (roV Q) by
        rw [← HE.out.1, ← m9_eq (fun k => roN F k), ← HG.out.1.1, ← HG.out.1.2, ← HG.out.2.1, ← HG.out.2.2]; rfl)
      have r1 := HS.out.r.setRow (m9 (dotV 30 F (q4 (F 0) (F 1) (-F 2) (-F 3)) 4) (dotV 30 (q4 (g1) (g1) (-g0) (-g0)) (q4 (g2) (g2) (g3) (g3)) 4) (dotV 30 (q4 (g1) (g1) (g0) (g0)) (q4 (g3) (g3) (g2) (g2)) 4) (dotV 30 (q4 (g1) (g1) (g0) (g0)) (q4 (g2) (g2) (g3) (g3)) 4) (dotV 30 F (q4 (F 0) (-F 1) (F 2) (-F 3)) 4) (dotV 30 (q4 (g2) (g2) (-g0) (-g0)) (q4 (g3) (g3) (g1) (g1)) 4) (dotV 30 (q4 (g1) (g1) (-g0) (-g0)) (q4 (g3) (g3) (g2) (g2)) 4) (dotV 30 (q4 (g2) (g2) (g0) (g0)) (q4 (g3) (g3) (g1) (g1)) 4) (dotV 30 F (q4 (F 0) (-F 1) (-F 2) (F 3)) 4))
      have B1 := HS.out.upd.then' (below_row (Below.refl _ _) (show w.heap.size ≤ w.heap.size + 1 + 1 by omega) (arrv 9 (m9 (dotV 30 F (q4 (F 0) (F 1) (-F 2) (-F 3)) 4) (dotV 30 (q4 (g1) (g1) (-g0) (-g0)) (q4 (g2) (g2) (g3) (g3)) 4) (dotV 30 (q4 (g1) (g1) (g0) (g0)) (q4 (g3) (g3) (g2) (g2)) 4) (dotV 30 (q4 (g1) (g1) (g0) (g0)) (q4 (g2) (g2) (g3) (g3)) 4) (dotV 30 F (q4 (F 0) (-F 1) (F 2) (-F 3)) 4) (dotV 30 (q4 (g2) (g2) (-g0) (-g0)) (q4 (g3) (g3) (g1) (g1)) 4) (dotV 30 (q4 (g1) (g1) (-g0) (-g0)) (q4 (g3) (g3) (g2) (g2)) 4) (dotV 30 (q4 (g2) (g2) (g0) (g0)) (q4 (g3) (g3) (g1) (g1)) 4) (dotV 30 F (q4 (F 0) (-F 1) (-F 2) (F 3)) 4))))
      rw [HV.out] at r1 B1 ⊢
      have B2 : Upd c (h || roH Q) w (w9.setRow (w.heap.size + 1 + 1) (arrv 9 (roV Q))) := by
        rw [← HE.out.2]
        rw [show (H1 || orB (roNH F) 9) = (H1 || dotH 30 F (q4 (F 0) (F 1) (-F 2) (-F 3)) 4 || dotH 30 (q4 (g1) (g1) (-g0) (-g0)) (q4 (g2) (g2) (g3) (g3)) 4 || dotH 30 (q4 (g1) (g1) (g0) (g0)) (q4 (g3) (g3) (g2) (g2)) 4 || dotH 30 (q4 (g1) (g1) (g0) (g0)) (q4 (g2) (g2) (g3) (g3)) 4 || dotH 30 F (q4 (F 0) (-F 1) (F 2) (-F 3)) 4 || dotH 30 (q4 (g2) (g2) (-g0) (-g0)) (q4 (g3) (g3) (g1) (g1)) 4 || dotH 30 (q4 (g1) (g1) (-g0) (-g0)) (q4 (g3) (g3) (g2) (g2)) 4 || dotH 30 (q4 (g2) (g2) (g0) (g0)) (q4 (g3) (g3) (g1) (g1)) 4 || dotH 30 F (q4 (F 0) (-F 1) (-F 2) (F 3)) 4) by rw [← HG.out.1.1, ← HG.out.1.2, ← HG.out.2.1, ← HG.out.2.2]; simp [orB, roNH, roA, roB, Bool.or_assoc]]
        exact B1
      have r2 := Lib.hid (show (w9.setRow (w.heap.size + 1 + 1) (arrv 9 (roV Q))).heap[w.heap.size + 1 + 1]? = some (.cells (arrv 9 (roV Q)) 92 (0, 0)) by rw [← HV.out]; rw [← HV.out] at r1; exact r1)
      clear r1 B1
      generalize w9.setRow (w.heap.size + 1 + 1) (arrv 9 (roV Q)) = W8 at *
      go_wp2_with fail
      refine bodyPost_ret (results_cell_row Try.results65 _ _ (w.heap.size + 1 + 1) 92 (arrv 9 (roV Q)) (0, 0) _ rfl r2.out Try.underlying92 rfl (im9.trans (by rw [arrv_size]))) rfl ⟨rfl, B2⟩
end Go.Proofs.Ytpoiobgpggiebaa
