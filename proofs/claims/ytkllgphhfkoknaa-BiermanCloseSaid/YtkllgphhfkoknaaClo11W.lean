/- The walk of the law BiermanClose. -/
import Derived.Test.YtkllgphhfkoknaaQ09
import Derived.Test.YtkllgphhfkoknaaQ06
import Derived.Test.YtkllgphhfkoknaaQ11
namespace Go.Proofs.Ytkllgphhfkoknaa
open Go.RowKit
set_option maxRecDepth 100000
/-- The law's own blocks: factors, row. -/
structure BlR (P H : Nat → Int) (w wr : World) : Prop where
  below : Below w.heap.size w wr
  pB : Blk wr w.heap.size 25 300 P
  hB : Blk wr (w.heap.size + 1) 26 24 H
section
variable {P H : Nat → Int} {w wr w' : World}
theorem BlR.down (s : BlR P H w wr) (u : Below wr.heap.size wr w') : BlR P H w w' := ⟨s.below.trans (u.mono s.below.size), s.pB.below u, s.hB.below u⟩
theorem BlR.setP (s : BlR P H w wr) (i : Nat) (x : Int) : BlR (upd P i x) H w (wr.setCell ⟨w.heap.size, i, none⟩ (.int .i64 x)) :=
  ⟨s.below.setCell (Nat.le_refl _) _, s.pB.set i x, s.hB.other (by simp) _⟩
theorem BlR.setH (s : BlR P H w wr) (i : Nat) (x : Int) : BlR P (upd H i x) w (wr.setCell ⟨w.heap.size + 1, i, none⟩ (.int .i64 x)) :=
  ⟨s.below.setCell (by simp) _, s.pB.other (by simp) _, s.hB.set i x⟩
theorem BlR.congr {P' H' : Nat → Int} (s : BlR P H w wr) (e1 : ∀ x, x < 300 → P x = P' x) (e2 : ∀ x, x < 24 → H x = H' x) : BlR P' H' w wr := ⟨s.below, s.pB.congr e1, s.hB.congr e2⟩
theorem bl_start (P H : Nat → Int) (w : World) : BlR P H w ((w.alloc (.cells (arrv 300 P) 25)).alloc (.cells (arrv 24 H) 26)) :=
  ⟨by (repeat (first | with_reducible exact Below.refl _ _ | with_reducible apply Below.drew | (with_reducible refine below_drewN ?_ _) | (with_reducible refine Below.alloc ?_ (by (try simp) <;> omega) _) | (with_reducible refine Below.setCell ?_ (by (try simp) <;> omega) _))), (Blk.new w _ _ _).alloc _, Blk.new1 w _ _ _ _⟩
/-- Two slices that grow, behind the blocks E. -/
structure BtR (bc top : Nat) (E : List Lx) (va vb : Value) (m n : Nat) (LA LB : Nat → Int) (w wr : World) : Prop where
  s : LsR ⟨bc, 0, none⟩ false E top w wr
  a : Own wr top 2 va m LA
  b : Own wr top 2 vb n LB
  d : ∀ g, va.ownBlock = some g → vb.ownBlock ≠ some g
variable {bc top : Nat} {E : List Lx} {va vb : Value} {m n : Nat} {LA LB : Nat → Int}
theorem BtR.down (s : BtR bc top E va vb m n LA LB w wr) (u : Below wr.heap.size wr w') : BtR bc top E va vb m n LA LB w w' := ⟨s.s.down u, s.a.below u, s.b.below u, s.d⟩
theorem BtR.upd' (s : BtR bc top E va vb m n LA LB w wr) (u : Upd ⟨bc, 0, none⟩ false wr w') : BtR bc top E va vb m n LA LB w w' := by
  have h1 := s.s.cb
  have h2 := s.s.lim
  exact ⟨s.s.upd' u, s.a.upd u (by omega), s.b.upd u (by omega), s.d⟩
theorem BtR.growA (s : BtR bc top E va vb m n LA LB w wr) {g cp : Nat} (hg : wr.grownBy w' va.ownBlock) (hO : Own w' top 2 (.slice (some ⟨g, 0, none⟩) (m + 1) cp) (m + 1) LA) (hat : va.ownBlock = some g ∨ g = wr.heap.size) :
    BtR bc top E (.slice (some ⟨g, 0, none⟩) (m + 1) cp) vb (m + 1) n LA LB w w' := by
  have b := below_grown (Below.refl top wr) hg (fun k e => (ownBlock_lt s.a e).1) s.s.le
  refine ⟨s.s.low b (Nat.le_trans s.s.le hg.size), hO, s.b.grown hg fun k hk e => s.d k e hk, fun k hk e => ?_⟩
  have e1 : g = k := by simpa [Value.ownBlock] using hk
  subst e1
  rcases hat with h | h
  · exact s.d _ h e
  · have := (ownBlock_lt s.b e).2; omega
theorem BtR.growB (s : BtR bc top E va vb m n LA LB w wr) {g cp : Nat} (hg : wr.grownBy w' vb.ownBlock) (hO : Own w' top 2 (.slice (some ⟨g, 0, none⟩) (n + 1) cp) (n + 1) LB) (hat : vb.ownBlock = some g ∨ g = wr.heap.size) :
    BtR bc top E va (.slice (some ⟨g, 0, none⟩) (n + 1) cp) m (n + 1) LA LB w w' := by
  have b := below_grown (Below.refl top wr) hg (fun k e => (ownBlock_lt s.b e).1) s.s.le
  refine ⟨s.s.low b (Nat.le_trans s.s.le hg.size), s.a.grown hg fun k hk e => s.d k hk e, hO, fun k hk e => ?_⟩
  have e1 : g = k := by simpa [Value.ownBlock] using e
  subst e1
  rcases hat with h | h
  · exact s.d _ hk h
  · have := (ownBlock_lt s.a hk).2; omega
end
theorem own_cells {w : World} {B T g n cp : Nat} {L : Nat → Int} (h : Own w B T (.slice (some ⟨g, 0, none⟩) n cp) n L) (hn : 0 < n) : ∀ i, i < n → w.cell? ⟨g, 0 + i, none⟩ = some (.int .i64 (L i)) := by
  obtain ⟨g', cp', e, _, _, hc⟩ := h.slc hn
  cases e
  exact hc
/-- Sub without a clamp. -/
theorem sub_no (c : Addr) (a b : Int) (hs : subH a b = false) (w : World) (hc : w.cell? c = some (.bool false)) (hf : w.frozen? c = false) :
    Calls Try.prog 8 #[.pointer (some c), .int .i64 a, .int .i64 b] w fun e w' => e = .returned (.int .i64 (subV a b)) ∧ Upd c false w w' := by
  refine (sub_any c false a b w hc hf).mono fun e w' h => ⟨h.1, ?_⟩
  rw [← h.2, show (false || satH a || satH b || satH (satV a - satV b)) = subH a b by unfold subH; simp, hs]
  exact Upd.set c _ _
set_option maxHeartbeats 4000000 in
theorem bcl_noop (P H : Nat → Int) (r i j : Int) (w : World) (h : i < 0 ∨ 23 < i ∨ j < 0 ∨ 23 < j) :
    Calls Try.prog 3 #[.agg (arrv 300 P), .agg (arrv 24 H), .int .i64 r, .int .i64 i, .int .i64 j] w fun e w' => e = .returned (.bool true) ∧ Below w.heap.size w w' := by
  have S0 := Lib.hid (bl_start P H w).below
  go_enter Try.func3, Try.ntmps3
  go_upto_region 1 with fail
  generalize (w.alloc (.cells (arrv 300 P) 25)).alloc (.cells (arrv 24 H) 26) = W0 at *
  go_upto_region 3 with (go_at_call 4; (refine (awake_any _).mono ?_); rintro e w1 ⟨rfl, hb1⟩; have S1 := Lib.hid (Below.after S0.out hb1); clear hb1)
  go_wp2_with fail
  all_goals (first | (exfalso; omega) | (go_ret; exact ⟨rfl, S1.out⟩))
set_option maxHeartbeats 20000000 in
theorem bcl_yes (P0 H0 : Nat → Int) (r0 : Int) (i j : Nat) (w : World) (hi : i < 24) (hj : j < 24) :
    Calls Try.prog 3 #[.agg (arrv 300 P0), .agg (arrv 24 H0), .int .i64 r0, .int .i64 (i : Int), .int .i64 (j : Int)] w fun e w' => e = .returned (.bool true) ∧ Below w.heap.size w w' := by
  have S0 := Lib.hid (bl_start P0 H0 w)
  have NN := Lib.hid (bc_num P0 H0 r0)
  have i0 : (0 : Int) ≤ (i : Int) := Int.natCast_nonneg _
  have j0 : (0 : Int) ≤ (j : Int) := Int.natCast_nonneg _
  have i1 : (i : Int) < 24 := by omega
  have j1 : (j : Int) < 24 := by omega
  have t1 : decide ((i : Int) < 0) = false := by simp
  have t2 : decide (23 < (i : Int)) = false := by simp; omega
  have t3 : decide ((j : Int) < 0) = false := by simp
  have t4 : decide (23 < (j : Int)) = false := by simp; omega
  go_enter Try.func3, Try.ntmps3
  go_upto_region 1 with fail
  generalize (w.alloc (.cells (arrv 300 P0) 25)).alloc (.cells (arrv 24 H0) 26) = W0 at *
  go_upto_region 5 with (go_at_call 4; (refine (awake_any _).mono ?_); rintro e w1 ⟨rfl, hb1⟩; have S1 := Lib.hid (S0.out.down hb1); clear hb1)
  clear S0
  go_wp2_with fail
  go_loopw [11] (fun v wr => ∃ m : Nat, m ≤ 276 ∧ v = .int .i64 m ∧ Hid (BlR (clU P0 m) H0 w wr)) (fun v _ => 276 - (intOf v).toNat)
  case atStart => exact ⟨0, by omega, rfl, S1.out.congr (fun x _ => by simp [clU]) (fun _ _ => rfl)⟩
  case round =>
    obtain ⟨m, hm, rfl, R⟩ := hrel
    clear S1
    by_cases hlt : m < 276
    · have d1 : decide ((m : Int) < 276) = true := by simp; omega
      have m0 : (0 : Int) ≤ (m : Int) := Int.natCast_nonneg _
      have m1 : (m : Int) < 276 := by omega
      have c0 := R.out.pB.cell (i := m) (by omega)
      have c1 := R.out.pB.free m
      go_wp2_with fail
      go_roundw
      case rel => exact ⟨m + 1, by omega, by go_num, (R.out.setP m ((clU P0 m m).tmod 268435456)).congr (fun x _ => clU_next P0 m x) (fun _ _ => rfl)⟩
      case measure => simp [intOf]; omega
    · have hk6 : m = 276 := by omega
      subst hk6
      rw [show ((276 : Nat) : Int) = 276 from rfl]
      have R2 := Lib.hid (R.out.congr (clD_start P0) (H' := bcHM H0 0) (fun x _ => by simp [bcHM]))
      clear R hlt hm
      go_wp2_with fail
      go_loopw [12] (fun v wr => ∃ m : Nat, m ≤ 24 ∧ v = .int .i64 m ∧ Hid (BlR (clD P0 m) (bcHM H0 m) w wr)) (fun v _ => 24 - (intOf v).toNat)
      case atStart => exact ⟨0, by omega, rfl, R2.out⟩
      case round =>
        obtain ⟨m, hm, rfl, R⟩ := hrel
        clear R2
        by_cases hlt : m < 24
        · have d1 : decide ((m : Int) < 24) = true := by simp; omega
          have m0 : (0 : Int) ≤ (m : Int) := Int.natCast_nonneg _
          have m1 : (m : Int) < 24 := by omega
          have c0 := R.out.pB.cell (i := 276 + m) (by omega)
          have c1 := R.out.pB.free (276 + m)
          have c2 := R.out.hB.cell (i := m) (by omega)
          have c3 := R.out.hB.free m
          have b1 := and43 (P0 (276 + m))
          rw [clD_at] at c0
          rw [bcHM_at] at c2
          have w1' : IntKind.i64.wrap (17179869184 + Go.bits .and .i64 (P0 (276 + m)) 8796093022207) = 17179869184 + Go.bits .and .i64 (P0 (276 + m)) 8796093022207 := IntWalk.i64_in _ (by omega)
          go_wp2_with fail
          go_roundw
          case rel => exact ⟨m + 1, by omega, by go_num, ((R.out.setP (276 + m) (17179869184 + Go.bits .and .i64 (P0 (276 + m)) 8796093022207)).setH m ((H0 m).tmod 268435456)).congr (fun x _ => clD_next P0 m x) (fun x _ => bcHM_next H0 m x)⟩
          case measure => simp [intOf]; omega
        · have hm24 : m = 24 := by omega
          subst hm24
          rw [show ((24 : Nat) : Int) = 24 from rfl]
          have R3 := Lib.hid R.out
          clear R hlt hm
          have w3' : IntKind.i64.wrap (17179869184 + Go.bits .and .i64 r0 8796093022207) = bcR r0 := by
            have := and43 r0
            exact IntWalk.i64_in _ (by omega)
          obtain ⟨P, hP⟩ : ∃ x, clD P0 24 = x := ⟨_, rfl⟩
          obtain ⟨H, hH⟩ : ∃ x, bcHM H0 24 = x := ⟨_, rfl⟩
          obtain ⟨r, hr⟩ : ∃ x, bcR r0 = x := ⟨_, rfl⟩
          rw [hP, hH] at R3
          rw [hP, hH, hr] at NN
          rw [hr] at w3'
          clear hP hH hr
          go_upto_region 16 with fail
          obtain ⟨bc, hbc⟩ : ∃ x, wr.heap.size = x := ⟨_, rfl⟩
          have K4 := Lib.hid (Flg.new wr false)
          have R4 := Lib.hid (R3.out.down ((Below.refl _ _).alloc (Nat.le_refl _) (.cells #[.bool false] 30)))
          have hl4 : w.heap.size + 1 < bc := by rw [← hbc]; exact R3.out.hB.lt
          rw [hbc] at K4 ⊢
          generalize wr.alloc (.cells #[.bool false] 30) = W4 at *
          clear R3 hbc w3'
          have M4 := Lib.hid (ls_nil K4.out.cell K4.out.free)
          clear K4
          have P4 := R4.out.pB
          have H4 := R4.out.hB
          have UC0 := update_any ⟨bc, 0, none⟩ false P H r W4 M4.out.cell M4.out.free
          rw [NN.out.upd_no] at UC0
          have L := NN.out.law hi hj
          obtain ⟨A, hA⟩ : ∃ x, updP P H r = x := ⟨_, rfl⟩
          obtain ⟨G, hG⟩ : ∃ x, updG P H r = x := ⟨_, rfl⟩
          obtain ⟨s, hs⟩ : ∃ x, updS P H r = x := ⟨_, rfl⟩
          rw [hA, hG, hs] at UC0
          rw [hA, hG, hs] at L
          have UC := Lib.hid UC0
          have L := Lib.hid L
          clear UC0 hA hG hs
          refine wp_region_lit ?_
          refine wpList_val (v := ?_) rfl ?_ ?_
          rotate_left
          · (go_simp; (try (first | with_reducible rfl | (constructor <;> with_reducible rfl))))
          (try simp only [Act.put, nA, nB, nC])
          refine wpList_val (v := ?_) rfl ?_ ?_
          rotate_left
          · refine Eq.trans (run_load_row 25 (.tmp 5) (by rfl) (w.heap.size) (by rfl) _ _ _ _ (P4) Try.underlying25 rfl (icov.trans (by rw [arrv_size]))) ?_; with_reducible rfl
          (try simp only [Act.put, nA, nB, nC])
          refine wpList_val (v := ?_) rfl ?_ ?_
          rotate_left
          · refine Eq.trans (run_load_row 26 (.tmp 6) (by rfl) (w.heap.size + 1) (by rfl) _ _ _ _ (H4) Try.underlying26 rfl (irow.trans (by rw [arrv_size]))) ?_; with_reducible rfl
          (try simp only [Act.put, nA, nB, nC])
          refine wpList_val (v := ?_) rfl ?_ ?_
          rotate_left
          · (go_simp; (try (first | with_reducible rfl | (constructor <;> with_reducible rfl))))
          (try simp only [Act.put, nA, nB, nC])
          refine wpList_step (fun K hK => ?_)
          go_simp
          (refine UC.out.mono ?_); rintro e w5 ⟨rfl, hu⟩; have M5 := Lib.hid (M4.out.upd' hu); clear hu M4 P4 H4 UC; have RA : Blk ((w5.alloc (.cells Try.zeroCells25 25)).alloc (.cells #[.int .i64 0, .int .i64 0, .int .i64 0, .int .i64 0, .int .i64 0, .int .i64 0, .int .i64 0, .int .i64 0, .int .i64 0, .int .i64 0, .int .i64 0, .int .i64 0, .int .i64 0, .int .i64 0, .int .i64 0, .int .i64 0, .int .i64 0, .int .i64 0, .int .i64 0, .int .i64 0, .int .i64 0, .int .i64 0, .int .i64 0, .int .i64 0] 26)) w5.heap.size 25 300 (fun _ => 0) := (by rw [zcov]; exact (Blk.new _ _ _ _).alloc _); have RB : Blk (((w5.alloc (.cells Try.zeroCells25 25)).alloc (.cells #[.int .i64 0, .int .i64 0, .int .i64 0, .int .i64 0, .int .i64 0, .int .i64 0, .int .i64 0, .int .i64 0, .int .i64 0, .int .i64 0, .int .i64 0, .int .i64 0, .int .i64 0, .int .i64 0, .int .i64 0, .int .i64 0, .int .i64 0, .int .i64 0, .int .i64 0, .int .i64 0, .int .i64 0, .int .i64 0, .int .i64 0, .int .i64 0] 26)).setRow w5.heap.size (arrv 300 (A))) (w5.heap.size + 1) 26 24 (fun _ => 0) := (by rw [zrow]; exact (Blk.new1 _ _ _ _ _).setRow_other _ (by omega))
          (try dsimp only)
          (try simp only [Act.put, nA, nB, nC])
          refine hK _ _ ?_
          clear hK K
          refine wpList_val (v := ?_) rfl ?_ ?_
          rotate_left
          · (go_simp; (try (first | with_reducible rfl | (constructor <;> with_reducible rfl))))
          (try simp only [Act.put, nA, nB, nC])
          refine wpList_val (v := ?_) rfl ?_ ?_
          rotate_left
          · (go_simp; (try (first | with_reducible rfl | (constructor <;> with_reducible rfl))))
          (try simp only [Act.put, nA, nB, nC])
          refine wpList_val (v := ?_) rfl ?_ ?_
          rotate_left
          · (go_simp; (try (first | with_reducible rfl | (constructor <;> with_reducible rfl))))
          (try simp only [Act.put, nA, nB, nC])
          refine wpList_val (v := ?_) rfl ?_ ?_
          rotate_left
          · (go_simp; (try (first | with_reducible rfl | (constructor <;> with_reducible rfl))))
          (try simp only [Act.put, nA, nB, nC])
          refine wpList_act (v := ?_) (w' := ?_) rfl ?_ ?_
          rotate_left 2
          · (go_simp; (try (first | with_reducible rfl | (constructor <;> with_reducible rfl))))
          (try simp only [Act.put, nA, nB, nC])
          refine wpList_act (v := ?_) (w' := ?_) rfl ?_ ?_
          rotate_left 2
          · (go_simp; (try (first | with_reducible rfl | (constructor <;> with_reducible rfl))))
          (try simp only [Act.put, nA, nB, nC])
          refine wpList_done (w' := ?_) rfl ?_ ?_
          rotate_left
          · refine Eq.trans (run_store_row 25 (.tmp 14) (.tmp 83) (by rfl) (w5.heap.size) (by rfl) (by rfl) (RA) (icov.trans rfl)) ?_; with_reducible rfl
          (try simp only [Act.put, nA, nB, nC])
          refine wpList_done (w' := ?_) rfl ?_ ?_
          rotate_left
          · refine Eq.trans (run_store_row 26 (.tmp 15) (.tmp 84) (by rfl) (w5.heap.size + 1) (by rfl) (by rfl) (RB) (irow.trans rfl)) ?_; with_reducible rfl
          (try simp only [Act.put, nA, nB, nC])
          refine wpList_val (v := ?_) rfl ?_ ?_
          rotate_left
          · (go_simp; (try (first | with_reducible rfl | (constructor <;> with_reducible rfl))))
          (try simp only [Act.put, nA, nB, nC])
          refine wpList_nil ?_
          have M6 : LsR ⟨bc, 0, none⟩ false [⟨w5.heap.size + 1, 26, 24, G⟩, ⟨w5.heap.size, 25, 300, A⟩] (w5.heap.size + 1 + 1) W4 ((((w5.alloc (.cells Try.zeroCells25 25)).alloc (.cells #[.int .i64 0, .int .i64 0, .int .i64 0, .int .i64 0, .int .i64 0, .int .i64 0, .int .i64 0, .int .i64 0, .int .i64 0, .int .i64 0, .int .i64 0, .int .i64 0, .int .i64 0, .int .i64 0, .int .i64 0, .int .i64 0, .int .i64 0, .int .i64 0, .int .i64 0, .int .i64 0, .int .i64 0, .int .i64 0, .int .i64 0, .int .i64 0] 26)).setRow w5.heap.size (arrv 300 A)).setRow (w5.heap.size + 1) (arrv 24 G)) := by
            rw [zcov, zrow]
            have a := (M5.out.lay 25 300 (fun _ => 0)).lay 26 24 (fun _ => 0)
            have b := (a.sub (E' := [⟨w5.heap.size, 25, 300, fun _ => 0⟩, ⟨w5.heap.size + 1, 26, 24, fun _ => 0⟩]) (fun e he => by simp at he ⊢; rcases he with h | h <;> simp [h])).row (by intro e he; simp at he; rw [he]; simp) A
            have c := (b.sub (E' := [⟨w5.heap.size + 1, 26, 24, fun _ => 0⟩, ⟨w5.heap.size, 25, 300, A⟩]) (fun e he => by simp at he ⊢; rcases he with h | h <;> simp [h])).row (by intro e he; simp at he; rw [he]; simp) G
            simpa using c
          have M6 := Lib.hid M6
          obtain ⟨ab, hab⟩ : ∃ x, w5.heap.size = x := ⟨_, rfl⟩
          rw [hab] at M6 ⊢
          generalize (((w5.alloc (.cells Try.zeroCells25 25)).alloc (.cells #[.int .i64 0, .int .i64 0, .int .i64 0, .int .i64 0, .int .i64 0, .int .i64 0, .int .i64 0, .int .i64 0, .int .i64 0, .int .i64 0, .int .i64 0, .int .i64 0, .int .i64 0, .int .i64 0, .int .i64 0, .int .i64 0, .int .i64 0, .int .i64 0, .int .i64 0, .int .i64 0, .int .i64 0, .int .i64 0, .int .i64 0, .int .i64 0] 26)).setRow ab (arrv 300 A)).setRow (ab + 1) (arrv 24 G) = W6 at *
          clear hab RA RB M5
          have l4 : w.heap.size + 1 < bc := hl4
          have T6 := Lib.hid (show BtR bc (ab + 1 + 1) [⟨ab + 1, 26, 24, G⟩, ⟨ab, 25, 300, A⟩] (.slice none 0 0) (.slice none 0 0) 0 0 (fun t => atV P i t) (fun t => atV P j t) W4 W6 from ⟨M6.out, Own.nil _ _ _ _, Own.nil _ _ _ _, fun g hg => by cases hg⟩)
          clear M6
          go_wp2_with fail
          go_loopw [17, 18, 19] (fun v17 v18 v19 wr => ∃ (m : Nat) (va vb : Value), m ≤ 24 ∧ v19 = .int .i64 m ∧ va = v17 ∧ vb = v18 ∧ Hid (BtR bc (ab + 1 + 1) [⟨ab + 1, 26, 24, G⟩, ⟨ab, 25, 300, A⟩] va vb m m (fun t => atV P i t) (fun t => atV P j t) W4 wr)) (fun _ _ v _ => 24 - (intOf v).toNat)
          case atStart => exact ⟨0, _, _, by omega, rfl, rfl, rfl, T6⟩
          case round =>
            obtain ⟨m, va, vb, hm, rfl, rfl, rfl, Q⟩ := hrel
            clear T6
            by_cases hmt : m < 24
            · have d2 : decide ((m : Int) < 24) = true := by simp; omega
              have m0 : (0 : Int) ≤ (m : Int) := Int.natCast_nonneg _
              have m1 : (m : Int) < 24 := by omega
              have P5 := R4.out.pB.upd Q.out.s.upd (by simp only; omega)
              have ATi := fun (x : World) (k1 : x.cell? ⟨bc, 0, none⟩ = some (.bool false)) (k2 : x.frozen? ⟨bc, 0, none⟩ = false) => at_any ⟨bc, 0, none⟩ false P i m x k1 k2 hi hmt
              have ATj := fun (x : World) (k1 : x.cell? ⟨bc, 0, none⟩ = some (.bool false)) (k2 : x.frozen? ⟨bc, 0, none⟩ = false) => at_any ⟨bc, 0, none⟩ false P j m x k1 k2 hj hmt
              rw [NN.out.at_no hi hmt] at ATi
              rw [NN.out.at_no hj hmt] at ATj
              obtain ⟨yi, hyi⟩ : ∃ y, atV P i m = y := ⟨_, rfl⟩
              obtain ⟨yj, hyj⟩ : ∃ y, atV P j m = y := ⟨_, rfl⟩
              rw [hyi] at ATi
              rw [hyj] at ATj
              have HYi := Lib.hid hyi
              have HYj := Lib.hid hyj
              have ATi := Lib.hid ATi
              have ATj := Lib.hid ATj
              clear hyi hyj
              go_upto_region 22 with fail
              refine wp_region_lit ?_
              refine wpList_val (v := ?_) rfl ?_ ?_
              rotate_left
              · (go_simp; (try (first | with_reducible rfl | (constructor <;> with_reducible rfl))))
              (try simp only [Act.put, nA, nB, nC])
              refine wpList_val (v := ?_) rfl ?_ ?_
              rotate_left
              · (go_simp; (try (first | with_reducible rfl | (constructor <;> with_reducible rfl))))
              (try simp only [Act.put, nA, nB, nC])
              refine wpList_val (v := ?_) rfl ?_ ?_
              rotate_left
              · refine Eq.trans (run_load_row 25 (.tmp 5) (by rfl) (w.heap.size) (by rfl) _ _ _ _ (P5) Try.underlying25 rfl (icov.trans (by rw [arrv_size]))) ?_; with_reducible rfl
              (try simp only [Act.put, nA, nB, nC])
              refine wpList_val (v := ?_) rfl ?_ ?_
              rotate_left
              · (go_simp; (try (first | with_reducible rfl | (constructor <;> with_reducible rfl))))
              (try simp only [Act.put, nA, nB, nC])
              refine wpList_val (v := ?_) rfl ?_ ?_
              rotate_left
              · (go_simp; (try (first | with_reducible rfl | (constructor <;> with_reducible rfl))))
              (try simp only [Act.put, nA, nB, nC])
              refine wpList_step (fun K hK => ?_)
              go_simp
              (refine (ATi.out _ Q.out.s.cell Q.out.s.free).mono ?_); rintro e w8 ⟨rfl, hu8⟩; have H8 := Lib.hid (Q.out.upd' hu8); clear hu8 P5; have HA8 := Lib.hid (H8.out.down ((Below.refl _ _).alloc (Nat.le_refl _) (.cells #[.int .i64 yi] 2))); have hbz := H8.out.s.le
              (try dsimp only)
              (try simp only [Act.put, nA, nB, nC])
              refine hK _ _ ?_
              clear hK K
              refine wpList_act (v := ?_) (w' := ?_) rfl ?_ ?_
              rotate_left 2
              · (go_simp; (try (first | with_reducible rfl | (constructor <;> with_reducible rfl))))
              (try simp only [Act.put, nA, nB, nC])
              (refine wpList_app1 rfl (.tmp 90) (.tmp 96) rfl (ab + 1 + 1) rfl HA8.out.a w8.heap.size 1 yi rfl (by simp [go_sem]) (by omega) (by simp; omega) (w8.heap.size + 1) (by simp) ?_; intro gi cpi w9 hO1 hg1 hat1 hlt1; have HGi := Lib.hid (HA8.out.growA hg1 (hO1.congr (snoc_fun HYi.out.symm)) (hat1.imp (fun e => e) (fun e => by rw [e]; simp))); clear hO1 hg1 hat1 hlt1 HA8 H8 hbz)
              refine wpList_val (v := ?_) rfl ?_ ?_
              rotate_left
              · (go_simp; (try (first | with_reducible rfl | (constructor <;> with_reducible rfl))))
              (try simp only [Act.put, nA, nB, nC])
              refine wpList_nil ?_
              have P5 := R4.out.pB.upd HGi.out.s.upd (by simp only; omega)
              go_upto_region 23 with fail
              refine wp_region_lit ?_
              refine wpList_val (v := ?_) rfl ?_ ?_
              rotate_left
              · (go_simp; (try (first | with_reducible rfl | (constructor <;> with_reducible rfl))))
              (try simp only [Act.put, nA, nB, nC])
              refine wpList_val (v := ?_) rfl ?_ ?_
              rotate_left
              · (go_simp; (try (first | with_reducible rfl | (constructor <;> with_reducible rfl))))
              (try simp only [Act.put, nA, nB, nC])
              refine wpList_val (v := ?_) rfl ?_ ?_
              rotate_left
              · refine Eq.trans (run_load_row 25 (.tmp 5) (by rfl) (w.heap.size) (by rfl) _ _ _ _ (P5) Try.underlying25 rfl (icov.trans (by rw [arrv_size]))) ?_; with_reducible rfl
              (try simp only [Act.put, nA, nB, nC])
              refine wpList_val (v := ?_) rfl ?_ ?_
              rotate_left
              · (go_simp; (try (first | with_reducible rfl | (constructor <;> with_reducible rfl))))
              (try simp only [Act.put, nA, nB, nC])
              refine wpList_val (v := ?_) rfl ?_ ?_
              rotate_left
              · (go_simp; (try (first | with_reducible rfl | (constructor <;> with_reducible rfl))))
              (try simp only [Act.put, nA, nB, nC])
              refine wpList_step (fun K hK => ?_)
              go_simp
              (refine (ATj.out _ HGi.out.s.cell HGi.out.s.free).mono ?_); rintro e w8 ⟨rfl, hu8⟩; have H8 := Lib.hid (HGi.out.upd' hu8); clear hu8 P5; have HA8 := Lib.hid (H8.out.down ((Below.refl _ _).alloc (Nat.le_refl _) (.cells #[.int .i64 yj] 2))); have hbz := H8.out.s.le
              (try dsimp only)
              (try simp only [Act.put, nA, nB, nC])
              refine hK _ _ ?_
              clear hK K
              refine wpList_act (v := ?_) (w' := ?_) rfl ?_ ?_
              rotate_left 2
              · (go_simp; (try (first | with_reducible rfl | (constructor <;> with_reducible rfl))))
              (try simp only [Act.put, nA, nB, nC])
              (refine wpList_app1 rfl (.tmp 98) (.tmp 104) rfl (ab + 1 + 1) rfl HA8.out.b w8.heap.size 1 yj rfl (by simp [go_sem]) (by omega) (by simp; omega) (w8.heap.size + 1) (by simp) ?_; intro gj cpj w9 hO1 hg1 hat1 hlt1; have HGj := Lib.hid (HA8.out.growB hg1 (hO1.congr (snoc_fun HYj.out.symm)) (hat1.imp (fun e => e) (fun e => by rw [e]; simp))); clear hO1 hg1 hat1 hlt1 HA8 H8 hbz)
              refine wpList_val (v := ?_) rfl ?_ ?_
              rotate_left
              · (go_simp; (try (first | with_reducible rfl | (constructor <;> with_reducible rfl))))
              (try simp only [Act.put, nA, nB, nC])
              refine wpList_nil ?_
              go_wp2_with fail
              go_roundw
              case rel => exact ⟨m + 1, _, _, by omega, by go_num, rfl, rfl, HGj⟩
              case measure => simp [intOf]; omega
            · have hm24 : m = 24 := by omega
              subst hm24
              rw [show ((24 : Nat) : Int) = 24 from rfl]
              obtain ⟨ga, cpa, rfl, _, _, _⟩ := Q.out.a.slc (by decide)
              obtain ⟨gb, cpb, rfl, _, _, _⟩ := Q.out.b.slc (by decide)
              have DTi := fun (x : World) (t : BtR bc (ab + 1 + 1) [⟨ab + 1, 26, 24, G⟩, ⟨ab, 25, 300, A⟩] (.slice (some ⟨ga, 0, none⟩) 24 cpa) (.slice (some ⟨gb, 0, none⟩) 24 cpb) 24 24 (fun t => atV P i t) (fun t => atV P j t) W4 x) =>
                dot_any ⟨bc, 0, none⟩ false 30 (fun t => atV P i t) H ga 0 cpa (w.heap.size + 1) 0 24 24 x t.s.cell t.s.free (by decide) (by decide) (by decide) (own_cells t.a (by decide)) (fun q hq => by rw [Nat.zero_add]; exact (R4.out.hB.upd t.s.upd (by simp only; omega)).cell hq)
              have DTj := fun (x : World) (t : BtR bc (ab + 1 + 1) [⟨ab + 1, 26, 24, G⟩, ⟨ab, 25, 300, A⟩] (.slice (some ⟨ga, 0, none⟩) 24 cpa) (.slice (some ⟨gb, 0, none⟩) 24 cpb) 24 24 (fun t => atV P i t) (fun t => atV P j t) W4 x) =>
                dot_any ⟨bc, 0, none⟩ false 30 (fun t => atV P j t) H gb 0 cpb (w.heap.size + 1) 0 24 24 x t.s.cell t.s.free (by decide) (by decide) (by decide) (own_cells t.b (by decide)) (fun q hq => by rw [Nat.zero_add]; exact (R4.out.hB.upd t.s.upd (by simp only; omega)).cell hq)
              have e1 : dotV 30 (fun t => atV P i t) H 24 = bcs P H i := rfl
              have e2 : dotV 30 (fun t => atV P j t) H 24 = bcs P H j := rfl
              rw [e1, (NN.out.sum hi).2] at DTi
              rw [e2, (NN.out.sum hj).2] at DTj
              clear e1 e2
              have l := L.out
              obtain ⟨u, hu⟩ : ∃ x, bcs P H i = x := ⟨_, rfl⟩
              obtain ⟨v, hv⟩ : ∃ x, bcs P H j = x := ⟨_, rfl⟩
              rw [hu] at DTi l
              rw [hv] at DTj l
              have ATp := fun (x : World) (k1 : x.cell? ⟨bc, 0, none⟩ = some (.bool false)) (k2 : x.frozen? ⟨bc, 0, none⟩ = false) => at_any ⟨bc, 0, none⟩ false P i j x k1 k2 hi hj
              rw [NN.out.at_no hi hj] at ATp
              have ATa := fun (x : World) (k1 : x.cell? ⟨bc, 0, none⟩ = some (.bool false)) (k2 : x.frozen? ⟨bc, 0, none⟩ = false) => at_any ⟨bc, 0, none⟩ false A i j x k1 k2 hi hj
              rw [l.2.2.1] at ATa
              have MDc := fun (x : World) (k1 : x.cell? ⟨bc, 0, none⟩ = some (.bool false)) (k2 : x.frozen? ⟨bc, 0, none⟩ = false) => mdiv_any ⟨bc, 0, none⟩ false u v s x k1 k2
              rw [l.1] at MDc
              have DVc := fun (x : World) (k1 : x.cell? ⟨bc, 0, none⟩ = some (.bool false)) (k2 : x.frozen? ⟨bc, 0, none⟩ = false) => fdiv_any ⟨bc, 0, none⟩ false u s 30 x k1 k2
              rw [l.2.2.2.2.1] at DVc
              obtain ⟨yp, hyp⟩ : ∃ x, atV P i j = x := ⟨_, rfl⟩
              obtain ⟨ya, hya⟩ : ∃ x, atV A i j = x := ⟨_, rfl⟩
              obtain ⟨q, hq⟩ : ∃ x, mdivV u v s = x := ⟨_, rfl⟩
              obtain ⟨dv, hdv⟩ : ∃ x, divV u s 30 = x := ⟨_, rfl⟩
              obtain ⟨gi, hgi⟩ : ∃ x, G i = x := ⟨_, rfl⟩
              rw [hyp] at ATp
              rw [hya] at ATa
              rw [hq] at MDc
              rw [hdv] at DVc
              rw [hyp, hya, hq, hdv, hgi] at l
              have S1 := fun (x : World) (k1 : x.cell? ⟨bc, 0, none⟩ = some (.bool false)) (k2 : x.frozen? ⟨bc, 0, none⟩ = false) => sub_no ⟨bc, 0, none⟩ yp q l.2.1 x k1 k2
              obtain ⟨wt, hwt⟩ : ∃ x, subV yp q = x := ⟨_, rfl⟩
              rw [hwt] at S1 l
              have S2 := fun (x : World) (k1 : x.cell? ⟨bc, 0, none⟩ = some (.bool false)) (k2 : x.frozen? ⟨bc, 0, none⟩ = false) => sub_no ⟨bc, 0, none⟩ ya wt l.2.2.2.1 x k1 k2
              have S3 := fun (x : World) (k1 : x.cell? ⟨bc, 0, none⟩ = some (.bool false)) (k2 : x.frozen? ⟨bc, 0, none⟩ = false) => sub_no ⟨bc, 0, none⟩ gi dv l.2.2.2.2.2.1 x k1 k2
              obtain ⟨d, hd⟩ : ∃ x, subV ya wt = x := ⟨_, rfl⟩
              obtain ⟨z, hz⟩ : ∃ x, subV gi dv = x := ⟨_, rfl⟩
              rw [hd] at S2 l
              rw [hz] at S3 l
              have b1 := ab_le l.2.2.2.2.2.2.1
              have b2 := ab_le l.2.2.2.2.2.2.2
              have HF := Lib.hid (show decide (d ≤ 67108864) = true ∧ decide (-67108864 ≤ d) = true ∧ decide (z ≤ 65536) = true ∧ decide (-65536 ≤ z) = true from ⟨by simp; omega, by simp; omega, by simp; omega, by simp; omega⟩)
              have HGI := Lib.hid hgi
              have DTi := Lib.hid DTi
              have DTj := Lib.hid DTj
              have ATp := Lib.hid ATp
              have ATa := Lib.hid ATa
              have MDc := Lib.hid MDc
              have DVc := Lib.hid DVc
              have S1 := Lib.hid S1
              have S2 := Lib.hid S2
              have S3 := Lib.hid S3
              clear l b1 b2 hyp hya hq hdv hwt hd hz hu hv L hgi
              go_upto_region 24 with fail
              refine wp_region_lit ?_
              refine wpList_val (v := ?_) rfl ?_ ?_
              rotate_left
              · (go_simp; (try (first | with_reducible rfl | (constructor <;> with_reducible rfl))))
              (try simp only [Act.put, nA, nB, nC])
              refine wpList_val (v := ?_) rfl ?_ ?_
              rotate_left
              · (go_simp; (try (first | with_reducible rfl | (constructor <;> with_reducible rfl))))
              (try simp only [Act.put, nA, nB, nC])
              refine wpList_val (v := ?_) rfl ?_ ?_
              rotate_left
              · (go_simp; (try (first | with_reducible rfl | (constructor <;> with_reducible rfl))))
              (try simp only [Act.put, nA, nB, nC])
              refine wpList_step (fun K hK => ?_)
              go_simp
              (refine (DTi.out _ Q.out).mono ?_); rintro e w7 ⟨rfl, hu⟩; have Q2 := Lib.hid (Q.out.upd' hu); clear hu Q DTi
              (try dsimp only)
              (try simp only [Act.put, nA, nB, nC])
              refine hK _ _ ?_
              clear hK K
              refine wpList_val (v := ?_) rfl ?_ ?_
              rotate_left
              · (go_simp; (try (first | with_reducible rfl | (constructor <;> with_reducible rfl))))
              (try simp only [Act.put, nA, nB, nC])
              refine wpList_nil ?_
              go_upto_region 25 with fail
              refine wp_region_lit ?_
              refine wpList_val (v := ?_) rfl ?_ ?_
              rotate_left
              · (go_simp; (try (first | with_reducible rfl | (constructor <;> with_reducible rfl))))
              (try simp only [Act.put, nA, nB, nC])
              refine wpList_val (v := ?_) rfl ?_ ?_
              rotate_left
              · (go_simp; (try (first | with_reducible rfl | (constructor <;> with_reducible rfl))))
              (try simp only [Act.put, nA, nB, nC])
              refine wpList_val (v := ?_) rfl ?_ ?_
              rotate_left
              · (go_simp; (try (first | with_reducible rfl | (constructor <;> with_reducible rfl))))
              (try simp only [Act.put, nA, nB, nC])
              refine wpList_step (fun K hK => ?_)
              go_simp
              (refine (DTj.out _ Q2.out).mono ?_); rintro e w8 ⟨rfl, hu⟩; have M := Lib.hid (Q2.out.upd' hu).s; clear hu Q2 DTj; have P5 := R4.out.pB.upd M.out.upd (by simp only; omega)
              (try dsimp only)
              (try simp only [Act.put, nA, nB, nC])
              refine hK _ _ ?_
              clear hK K
              refine wpList_val (v := ?_) rfl ?_ ?_
              rotate_left
              · (go_simp; (try (first | with_reducible rfl | (constructor <;> with_reducible rfl))))
              (try simp only [Act.put, nA, nB, nC])
              refine wpList_nil ?_
              go_upto_region 26 with fail
              refine wp_region_lit ?_
              refine wpList_val (v := ?_) rfl ?_ ?_
              rotate_left
              · (go_simp; (try (first | with_reducible rfl | (constructor <;> with_reducible rfl))))
              (try simp only [Act.put, nA, nB, nC])
              refine wpList_val (v := ?_) rfl ?_ ?_
              rotate_left
              · (go_simp; (try (first | with_reducible rfl | (constructor <;> with_reducible rfl))))
              (try simp only [Act.put, nA, nB, nC])
              refine wpList_val (v := ?_) rfl ?_ ?_
              rotate_left
              · refine Eq.trans (run_load_row 25 (.tmp 5) (by rfl) (w.heap.size) (by rfl) _ _ _ _ (P5) Try.underlying25 rfl (icov.trans (by rw [arrv_size]))) ?_; with_reducible rfl
              (try simp only [Act.put, nA, nB, nC])
              refine wpList_val (v := ?_) rfl ?_ ?_
              rotate_left
              · (go_simp; (try (first | with_reducible rfl | (constructor <;> with_reducible rfl))))
              (try simp only [Act.put, nA, nB, nC])
              refine wpList_val (v := ?_) rfl ?_ ?_
              rotate_left
              · (go_simp; (try (first | with_reducible rfl | (constructor <;> with_reducible rfl))))
              (try simp only [Act.put, nA, nB, nC])
              refine wpList_step (fun K hK => ?_)
              go_simp
              (refine (ATp.out _ M.out.cell M.out.free).mono ?_); rintro e w9 ⟨rfl, hu⟩; have M1 := Lib.hid (M.out.upd' hu); clear hu M ATp P5
              (try dsimp only)
              (try simp only [Act.put, nA, nB, nC])
              refine hK _ _ ?_
              clear hK K
              refine wpList_val (v := ?_) rfl ?_ ?_
              rotate_left
              · (go_simp; (try (first | with_reducible rfl | (constructor <;> with_reducible rfl))))
              (try simp only [Act.put, nA, nB, nC])
              refine wpList_val (v := ?_) rfl ?_ ?_
              rotate_left
              · (go_simp; (try (first | with_reducible rfl | (constructor <;> with_reducible rfl))))
              (try simp only [Act.put, nA, nB, nC])
              refine wpList_val (v := ?_) rfl ?_ ?_
              rotate_left
              · (go_simp; (try (first | with_reducible rfl | (constructor <;> with_reducible rfl))))
              (try simp only [Act.put, nA, nB, nC])
              refine wpList_val (v := ?_) rfl ?_ ?_
              rotate_left
              · (go_simp; (try (first | with_reducible rfl | (constructor <;> with_reducible rfl))))
              (try simp only [Act.put, nA, nB, nC])
              refine wpList_step (fun K hK => ?_)
              go_simp
              (refine (MDc.out _ M1.out.cell M1.out.free).mono ?_); rintro e w10 ⟨rfl, hu⟩; have M2 := Lib.hid (M1.out.upd' hu); clear hu M1 MDc
              (try dsimp only)
              (try simp only [Act.put, nA, nB, nC])
              refine hK _ _ ?_
              clear hK K
              refine wpList_step (fun K hK => ?_)
              go_simp
              (refine (S1.out _ M2.out.cell M2.out.free).mono ?_); rintro e w11 ⟨rfl, hu⟩; have M3 := Lib.hid (M2.out.upd' hu); clear hu M2 S1
              (try dsimp only)
              (try simp only [Act.put, nA, nB, nC])
              refine hK _ _ ?_
              clear hK K
              refine wpList_val (v := ?_) rfl ?_ ?_
              rotate_left
              · (go_simp; (try (first | with_reducible rfl | (constructor <;> with_reducible rfl))))
              (try simp only [Act.put, nA, nB, nC])
              refine wpList_nil ?_
              have A5 := M3.out.e1
              go_upto_region 27 with fail
              refine wp_region_lit ?_
              refine wpList_val (v := ?_) rfl ?_ ?_
              rotate_left
              · (go_simp; (try (first | with_reducible rfl | (constructor <;> with_reducible rfl))))
              (try simp only [Act.put, nA, nB, nC])
              refine wpList_val (v := ?_) rfl ?_ ?_
              rotate_left
              · (go_simp; (try (first | with_reducible rfl | (constructor <;> with_reducible rfl))))
              (try simp only [Act.put, nA, nB, nC])
              refine wpList_val (v := ?_) rfl ?_ ?_
              rotate_left
              · refine Eq.trans (run_load_row 25 (.tmp 14) (by rfl) (ab) (by rfl) _ _ _ _ (A5) Try.underlying25 rfl (icov.trans (by rw [arrv_size]))) ?_; with_reducible rfl
              (try simp only [Act.put, nA, nB, nC])
              refine wpList_val (v := ?_) rfl ?_ ?_
              rotate_left
              · (go_simp; (try (first | with_reducible rfl | (constructor <;> with_reducible rfl))))
              (try simp only [Act.put, nA, nB, nC])
              refine wpList_val (v := ?_) rfl ?_ ?_
              rotate_left
              · (go_simp; (try (first | with_reducible rfl | (constructor <;> with_reducible rfl))))
              (try simp only [Act.put, nA, nB, nC])
              refine wpList_step (fun K hK => ?_)
              go_simp
              (refine (ATa.out _ M3.out.cell M3.out.free).mono ?_); rintro e w12 ⟨rfl, hu⟩; have M4 := Lib.hid (M3.out.upd' hu); clear hu M3 ATa A5
              (try dsimp only)
              (try simp only [Act.put, nA, nB, nC])
              refine hK _ _ ?_
              clear hK K
              refine wpList_val (v := ?_) rfl ?_ ?_
              rotate_left
              · (go_simp; (try (first | with_reducible rfl | (constructor <;> with_reducible rfl))))
              (try simp only [Act.put, nA, nB, nC])
              refine wpList_step (fun K hK => ?_)
              go_simp
              (refine (S2.out _ M4.out.cell M4.out.free).mono ?_); rintro e w13 ⟨rfl, hu⟩; have M5 := Lib.hid (M4.out.upd' hu); clear hu M4 S2
              (try dsimp only)
              (try simp only [Act.put, nA, nB, nC])
              refine hK _ _ ?_
              clear hK K
              refine wpList_val (v := ?_) rfl ?_ ?_
              rotate_left
              · (go_simp; (try (first | with_reducible rfl | (constructor <;> with_reducible rfl))))
              (try simp only [Act.put, nA, nB, nC])
              refine wpList_nil ?_
              have HS := Lib.hid M5.out.drew
              clear M5
              go_upto_region 28 with fail
              refine wp_region_M (fun w' => w'.cell? ⟨ab + 1, i, none⟩ = some (.int .i64 gi)) 9 (by kernel_rfl) ?_ (fun hHeld => ?_)
              · (have := HS.out.e0.cell (i := i) hi; rw [HGI.out] at this; exact this)
              refine wpAnyM_take 0 (v := ?_) rfl (by kernel_rfl) (fun _ _ _ h => h) (Or.inl ⟨by rfl, ?_⟩) (by assumption) ?_
              rotate_left
              · (intro wx hSw; (try dsimp only at hSw); go_simp; (try with_reducible rfl))
              (try simp only [Act.put, nA, nB, nC])
              refine wpAnyM_take 1 (v := ?_) rfl (by kernel_rfl) (fun _ _ _ h => h) (Or.inl ⟨by rfl, ?_⟩) (by assumption) ?_
              rotate_left
              · (intro wx hSw; (try dsimp only at hSw); go_simp; (try with_reducible rfl))
              (try simp only [Act.put, nA, nB, nC])
              refine wpAnyM_take 2 (v := ?_) rfl (by kernel_rfl) (fun _ _ _ h => h) (Or.inl ⟨by rfl, ?_⟩) (by assumption) ?_
              rotate_left
              · (intro wx hSw; (try dsimp only at hSw); go_simp; (try with_reducible rfl))
              (try simp only [Act.put, nA, nB, nC])
              refine wpAnyM_take 3 (v := ?_) rfl (by kernel_rfl) (fun _ _ _ h => h) (Or.inl ⟨by rfl, ?_⟩) (by assumption) ?_
              rotate_left
              · (intro wx hSw; (try dsimp only at hSw); go_simp; (try with_reducible rfl))
              (try simp only [Act.put, nA, nB, nC])
              refine wpAnyM_take 4 (v := ?_) rfl (by kernel_rfl) (fun _ _ _ h => h) (Or.inl ⟨by rfl, ?_⟩) (by assumption) ?_
              rotate_left
              · (intro wx hSw; (try dsimp only at hSw); go_simp; (try with_reducible rfl))
              (try simp only [Act.put, nA, nB, nC])
              refine wpAnyM_take 5 (v := ?_) rfl (by kernel_rfl) (fun _ _ _ h => h) (Or.inl ⟨by rfl, ?_⟩) (by assumption) ?_
              rotate_left
              · (intro wx hSw; (try dsimp only at hSw); go_simp; (try with_reducible rfl))
              (try simp only [Act.put, nA, nB, nC])
              refine wpAnyM_take 6 (v := ?_) rfl (by kernel_rfl) (fun _ _ _ h => h) (Or.inl ⟨by rfl, ?_⟩) (by assumption) ?_
              rotate_left
              · (intro wx hSw; (try dsimp only at hSw); go_simp; (try with_reducible rfl))
              (try simp only [Act.put, nA, nB, nC])
              refine wpAnyM_oneS 7 rfl (by kernel_rfl) (fun K hK => ?_)
              go_simp
              (refine (DVc.out _ HS.out.cell HS.out.free).mono ?_); rintro e w14 ⟨rfl, hu⟩; have HS2 := Lib.hid (HS.out.upd' hu); clear HS hu; have HS := HS2; clear HS2
              (try dsimp only)
              (try simp only [Act.put, nA, nB, nC])
              clear hHeld
              refine hK.out _ _ ?_ (fun hHeld => ?_)
              · (have := HS.out.e0.cell (i := i) hi; rw [HGI.out] at this; exact this)
              clear hK K
              (try simp only [Act.put, nA, nB, nC])
              refine wpAnyM_oneS 8 rfl (by kernel_rfl) (fun K hK => ?_)
              go_simp
              (refine (S3.out _ HS.out.cell HS.out.free).mono ?_); rintro e w15 ⟨rfl, hu⟩; have HS2 := Lib.hid (HS.out.upd' hu); clear HS hu; have HS := HS2; clear HS2
              (try dsimp only)
              (try simp only [Act.put, nA, nB, nC])
              clear hHeld
              refine hK.out _ _ ?_ (fun hHeld => ?_)
              · (have := HS.out.e0.cell (i := i) hi; rw [HGI.out] at this; exact this)
              clear hK K
              (try simp only [Act.put, nA, nB, nC])
              refine wpAnyM_one 9 rfl (by kernel_rfl) (fun K hK => ?_)
              go_simp
              refine hK.out _ _ (.inl (by kernel_rfl)) (fun _ => ?_)
              clear hK K
              (try simp only [Act.put, nA, nB, nC])
              refine wpAnyM_done (by kernel_rfl) ?_ _
              have d1 := HF.out.1
              have d2 := HF.out.2.1
              have d3 := HF.out.2.2.1
              have d4 := HF.out.2.2.2
              have cc := HS.out.cell
              have HZ := Lib.hid (own_upd R4.out.below (show w.heap.size ≤ bc by omega) HS.out.upd)
              clear HS
              go_wp2_with fail
              go_ret
              exact ⟨rfl, HZ.out⟩
theorem bcl_walk (P H : Nat → Int) (r i j : Int) (w : World) :
    Calls Try.prog 3 #[.agg (arrv 300 P), .agg (arrv 24 H), .int .i64 r, .int .i64 i, .int .i64 j] w fun e w' => e = .returned (.bool true) ∧ Below w.heap.size w w' := by
  by_cases h : i < 0 ∨ 23 < i ∨ j < 0 ∨ 23 < j
  · exact bcl_noop P H r i j w h
  · obtain ⟨a, rfl⟩ : ∃ a : Nat, i = (a : Int) := ⟨i.toNat, by omega⟩
    obtain ⟨b, rfl⟩ : ∃ b : Nat, j = (b : Int) := ⟨j.toNat, by omega⟩
    exact bcl_yes P H r a b w (by omega) (by omega)
end Go.Proofs.Ytkllgphhfkoknaa
