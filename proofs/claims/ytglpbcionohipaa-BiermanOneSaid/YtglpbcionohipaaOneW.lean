/- The walk of BiermanOne. -/
import Derived.Test.YtglpbcionohipaaAwk11
import Derived.Test.YtglpbcionohipaaEqR
import Derived.Test.YtglpbcionohipaaOneP
import Derived.Deep.QuietTactic
import Derived.BigQuiet
import Derived.Deep.Cut
import Derived.Deep.CutRange
namespace Go.Proofs.Ytglpbcionohipaa
open Go.RowKit
set_option maxRecDepth 100000
theorem one_noop (k d r : Int) (w : World) (h : k < 0 ∨ 23 < k ∨ d < 1048576 ∨ 36028797018963968 < d ∨ r < 1048576 ∨ 36028797018963968 < r) :
    Calls Try.prog 3 #[.int .i64 k, .int .i64 d, .int .i64 r] w fun e w' => e = .returned (.bool true) ∧ Below w.heap.size w w' := by
  go_enter Try.func3, Try.ntmps3
  go_upto_region 5 with (go_at_call 6; (refine (awake_any _).mono ?_); rintro e w1 ⟨rfl, hb1⟩)
  all_goals (first | (exfalso; omega) | (go_wp2_with fail; go_ret; exact ⟨rfl, hb1⟩))
/-- What holds while p lies there. -/
structure OnS (bc bp : Nat) (P : Nat → Int) (w wr : World) : Prop where
  below : Below w.heap.size w wr
  fl : Flg wr bc false
  pB : Blk wr bp 29 300 P
theorem OnS.alloc {bc bp : Nat} {P : Nat → Int} {w wr : World} (s : OnS bc bp P w wr) (o : Obj) : OnS bc bp P w (wr.alloc o) := ⟨s.below.alloc s.below.size o, s.fl.alloc o, s.pB.alloc o⟩
theorem OnS.drew {bc bp : Nat} {P : Nat → Int} {w wr : World} (s : OnS bc bp P w wr) : OnS bc bp P w wr.drew := ⟨s.below.drew, s.fl, s.pB⟩
theorem OnS.drews {bc bp : Nat} {P : Nat → Int} {w wr : World} (s : OnS bc bp P w wr) (n : Nat) : OnS bc bp P w (wr.drewN n) := ⟨below_drewN s.below n, s.fl, s.pB⟩
theorem OnS.down {bc bp : Nat} {P : Nat → Int} {w wr w' : World} (s : OnS bc bp P w wr) (u : Below wr.heap.size wr w') : OnS bc bp P w w' := ⟨Below.after s.below u, s.fl.below u, s.pB.below u⟩
theorem OnS.upd {bc bp : Nat} {P : Nat → Int} {w wr w' : World} (s : OnS bc bp P w wr) (h1 : w.heap.size ≤ bc) (h2 : bc < bp) (u : Upd ⟨bc, 0, none⟩ false wr w') : OnS bc bp P w w' := ⟨own_upd s.below h1 u, s.fl.hit u, s.pB.upd u (by show bp ≠ bc; omega)⟩
theorem OnS.row {bc bp b T n : Nat} {P F f : Nat → Int} {w wr : World} (s : OnS bc bp P w wr) (h1 : w.heap.size ≤ bc) (h2 : bc < bp) (h : Blk wr b T n f ∧ bp < b) : OnS bc bp P w (wr.setRow b (arrv n F)) := ⟨below_row s.below (by omega) _, s.fl.row _ (by omega), s.pB.setRow_other _ (by omega)⟩
theorem on_cov {bc bp : Nat} {P : Nat → Int} {w wr : World} (s : OnS bc bp P w wr) (b : Nat) (hb : wr.heap.size = b) : Blk (wr.alloc (.cells Try.zeroCells29 29)) b 29 300 (fun _ => 0) ∧ bp < b := by
  subst hb
  rw [zcov]; exact ⟨Blk.new wr _ _ _, s.pB.lt⟩
theorem on_row {bc bp : Nat} {P : Nat → Int} {w wr : World} (s : OnS bc bp P w wr) (b : Nat) (hb : wr.heap.size = b) : Blk (wr.alloc (.cells #[.int .i64 0, .int .i64 0, .int .i64 0, .int .i64 0, .int .i64 0, .int .i64 0, .int .i64 0, .int .i64 0, .int .i64 0, .int .i64 0, .int .i64 0, .int .i64 0, .int .i64 0, .int .i64 0, .int .i64 0, .int .i64 0, .int .i64 0, .int .i64 0, .int .i64 0, .int .i64 0, .int .i64 0, .int .i64 0, .int .i64 0, .int .i64 0] 31)) b 31 24 (fun _ => 0) ∧ bp < b := by
  subst hb
  rw [zrow]; exact ⟨Blk.new wr _ _ _, s.pB.lt⟩
theorem slc1_new {bc bp : Nat} {P : Nat → Int} {w wr : World} (_s : OnS bc bp P w wr) (x : Int) (b : Nat) (hb : wr.heap.size = b) : Slc (wr.alloc (.cells #[.int .i64 x] 3)) (some ⟨b, 0, none⟩) 1 (fun _ => x) := by
  subst hb
  intro i hi
  obtain rfl : i = 0 := by omega
  exact ⟨_, _, rfl, by simp [go_sem]⟩
theorem blk_ne {wr : World} {b b' T T' n n' : Nat} {f g : Nat → Int} (h : Blk wr b T n f) (h' : Blk wr b' T' n' g) (hT : T ≠ T') : b ≠ b' := fun e => by
  subst e
  unfold Blk at h h'
  rw [h] at h'
  injection h' with h'
  injection h' with _ h2 _
  exact hT h2
theorem on_end {bc bp b9 b10 : Nat} {P F G f g : Nat → Int} {w wr : World} (s : OnS bc bp P w wr) (h1 : w.heap.size ≤ bc) (h2 : bc < bp) (a : Blk wr b9 29 300 f ∧ bp < b9) (c : Blk wr b10 31 24 g ∧ bp < b10) :
    Blk (wr.setRow b9 (arrv 300 F)) b10 31 24 g ∧ (Blk ((wr.setRow b9 (arrv 300 F)).setRow b10 (arrv 24 G)) b9 29 300 F ∧ Blk ((wr.setRow b9 (arrv 300 F)).setRow b10 (arrv 24 G)) b10 31 24 G ∧ OnS bc bp P w ((wr.setRow b9 (arrv 300 F)).setRow b10 (arrv 24 G))) := by
  have hne : b9 ≠ b10 := blk_ne a.1 c.1 (by decide)
  have x : Blk (wr.setRow b9 (arrv 300 F)) b10 31 24 g := c.1.setRow_other _ (fun e => hne e.symm)
  exact ⟨x, (a.1.setRow F).setRow_other _ hne, x.setRow G, (s.row h1 h2 a).row h1 h2 ⟨x, c.2⟩⟩
set_option maxHeartbeats 8000000 in
theorem one_yes (k : Nat) (d r : Int) (w : World) (hk : k < 24) (hd : 1048576 ≤ d ∧ d ≤ 36028797018963968) (hr : 1048576 ≤ r ∧ r ≤ 36028797018963968) :
    Calls Try.prog 3 #[.int .i64 k, .int .i64 d, .int .i64 r] w fun e w' => e = .returned (.bool true) ∧ Below w.heap.size w w' := by
  obtain ⟨l1, l2, l3, l4, l5, l6, l7⟩ := one_law hk hd hr
  have t1 : decide ((k : Int) < 0) = false := by simp
  have t2 : decide (23 < (k : Int)) = false := by simp; omega
  have t3 : decide (d < 1048576) = false := by simp; omega
  have t4 : decide (36028797018963968 < d) = false := by simp; omega
  have t5 : decide (r < 1048576) = false := by simp; omega
  have t6 : decide (36028797018963968 < r) = false := by simp; omega
  go_enter Try.func3, Try.ntmps3
  go_upto_region 5 with (go_at_call 6; (refine (awake_any _).mono ?_); rintro e w1 ⟨rfl, hb1⟩; have B1 := Lib.hid hb1; clear hb1)
  obtain ⟨bc, hbc⟩ : ∃ x, w1.heap.size = x := ⟨_, rfl⟩
  have hbw : w.heap.size ≤ bc := by rw [← hbc]; exact B1.out.size
  have F2 : Flg (w1.alloc (.cells #[.bool false] 25)) bc false := by rw [← hbc]; exact Flg.new w1 false
  have B2 := Lib.hid (B1.out.alloc B1.out.size (.cells #[.bool false] 25))
  go_upto_region 6 with fail
  (try rw [hbc])
  generalize w1.alloc (.cells #[.bool false] 25) = W2 at *
  clear hbc B1 t1 t2 t3 t4 t5 t6
  have N2 := Lib.hid (new_any ⟨bc, 0, none⟩ false none 0 0 (fun _ => 0) W2 F2.cell F2.free (fun i hi => by omega))
  go_upto_region 7 with (first | (go_at_call 7; (refine N2.out.mono ?_); rintro e w3 ⟨rfl, hu3⟩; (rw [newH_0] at hu3); replace hu3 : Upd ⟨bc, 0, none⟩ false W2 w3 := hu3; have F3 := Lib.hid (F2.hit hu3); have B3 := Lib.hid (own_upd B2.out (by show w.heap.size ≤ bc; omega) hu3); have R3 : Blk (w3.alloc (.cells Try.zeroCells29 29)) w3.heap.size 29 300 (fun _ => 0) := (by rw [zcov]; exact Blk.new _ _ _ _); clear hu3) | (refine wpList_store_row rfl 29 _ _ rfl (w3.heap.size) _ rfl rfl 29 _ (R3) (icov.trans (by rw [arrv_size])) (by rw [arrv_size, arrv_size]) (oneCell_arrv _ _) ?_))
  obtain ⟨w4, hw4⟩ : ∃ x, x = ((w3.alloc (.cells Try.zeroCells29 29)).setRow w3.heap.size (arrv 300 (newF 0 (fun _ => 0)))) := ⟨_, rfl⟩
  rw [← hw4]
  obtain ⟨M4, MB4⟩ := Blk.made zcov (newF 0 (fun _ => 0)) hw4
  have F4 := Lib.hid (F3.out.below MB4)
  have B4 := Lib.hid (Below.after B3.out MB4)
  have hb4 : bc < w3.heap.size := F3.out.lt
  obtain ⟨bp, hbp⟩ : ∃ x, w3.heap.size = x := ⟨_, rfl⟩
  rw [hbp] at M4 hb4 ⊢
  have m0 := M4.cell (i := 276 + k) (by omega)
  have m1 := M4.free (276 + k)
  clear hw4 R3 F2 B2 N2 F3 B3 MB4 hbp
  go_upto_region 8 with fail
  have J : OnS bc bp (onP k d) w (w4.setCell ⟨bp, 276 + k, none⟩ (.int .i64 d)) := ⟨B4.out.setCell (by show w.heap.size ≤ bp; omega) _, F4.out.other (by show bc ≠ bp; omega) _, M4.set _ _⟩
  generalize w4.setCell ⟨bp, 276 + k, none⟩ (.int .i64 d) = W5 at *
  obtain ⟨Fq, hFq⟩ : ∃ x, updP (onP k d) (pkF k) r = x := ⟨_, rfl⟩
  obtain ⟨Gq, hGq⟩ : ∃ x, updG (onP k d) (pkF k) r = x := ⟨_, rfl⟩
  obtain ⟨P, hP⟩ : ∃ x, onP k d = x := ⟨_, rfl⟩
  have U5 := Lib.hid (fun (x : World) (k1 : x.cell? ⟨bc, 0, none⟩ = some (.bool false)) (k2 : x.frozen? ⟨bc, 0, none⟩ = false) => update_any ⟨bc, 0, none⟩ false (onP k d) (pkF k) r x k1 k2)
  simp only [l4, l5, hFq, hGq, Bool.or_false] at U5
  simp only [hP] at U5
  rw [hFq, hP] at l1 l2
  rw [hGq] at l3
  rw [hP] at J
  have eN : pkS (fun _ => (k : Int)) 1 = pkF k := pkS_1 hk
  have EN := Lib.hid eN
  have hU := Lib.hid ((eqB_iff (n := 276) (f := fun i => Fq (0 + i)) (g := fun i => P (0 + i))).2 fun i hi => by rw [Nat.zero_add]; exact l1 i hi)
  have E2 := Lib.hid l2
  have E3 := Lib.hid l3
  have E6 := Lib.hid l6
  have E7 := Lib.hid l7
  have HS := Lib.hid J.drew
  clear m0 m1 F4 B4 M4 J l1 l2 l3 l4 l5 l6 l7 eN hFq hGq hP
  go_cut [9, 10, 11] from 47 to 57 (fun s9 s10 s11 wx => ∃ b9 b10, s9 = .pointer (some ⟨b9, 0, none⟩) ∧ s10 = .pointer (some ⟨b10, 0, none⟩) ∧ s11 = .int .i64 (d + r) ∧ Hid (Blk wx b9 29 300 Fq ∧ Blk wx b10 31 24 Gq ∧ OnS bc bp P w wx))
  case first =>
    refine wp_region_M (fun w' => Blk w' bp 29 300 P) 15 (by kernel_rfl) ?_ (fun hHeld => ?_)
    · exact HS.out.pB
    refine wpAnyM_take 0 (v := ?_) rfl (by kernel_rfl) (fun _ _ _ h => h) (Or.inl ⟨by rfl, ?_⟩) (by assumption) ?_
    rotate_left
    · (intro wx hSw; (try dsimp only at hSw); go_simp; (try with_reducible rfl))
    (try simp only [Act.put, List.setIfInBounds_toArray, List.set_cons_zero, List.set_cons_succ])
    refine wpAnyM_take 1 (v := ?_) rfl (by kernel_rfl) (fun _ _ _ h => h) (Or.inl ⟨by rfl, ?_⟩) (by assumption) ?_
    rotate_left
    · (intro wx hSw; refine Eq.trans (run_load_row 29 (.tmp 8) (by rfl) (bp) (by rfl) _ _ _ _ (hSw) Try.underlying29 rfl (icov.trans (by rw [arrv_size]))) ?_; with_reducible rfl)
    (try simp only [Act.put, List.setIfInBounds_toArray, List.set_cons_zero, List.set_cons_succ])
    refine wpAnyM_take 2 (v := ?_) rfl (by kernel_rfl) (fun _ _ _ h => h) (Or.inl ⟨by rfl, ?_⟩) (by assumption) ?_
    rotate_left
    · (intro wx hSw; (try dsimp only at hSw); go_simp; (try with_reducible rfl))
    (try simp only [Act.put, List.setIfInBounds_toArray, List.set_cons_zero, List.set_cons_succ])
    refine wpAnyM_take 5 (v := ?_) rfl (by kernel_rfl) (fun _ _ _ h => h) (Or.inl ⟨by rfl, ?_⟩) (by assumption) ?_
    rotate_left
    · (intro wx hSw; (try dsimp only at hSw); go_simp; (try with_reducible rfl))
    (try simp only [Act.put, List.setIfInBounds_toArray, List.set_cons_zero, List.set_cons_succ])
    refine wpAnyM_threeS 3 11 12 rfl rfl rfl (by kernel_rfl) (fun K hK => ?_) (fun K hK => ?_) (fun K hK => ?_)
    · go_simp; have HL := Lib.hid (slc1_new HS.out (k : Int) _ (by first | (simp; rfl) | rfl)); have HS2 := Lib.hid (HS.out.alloc (.cells #[.int .i64 (k : Int)] 3)); clear HS; have HS := HS2; clear HS2; (try (have HA2 := Lib.hid (And.intro (HA.out.1.alloc (.cells #[.int .i64 (k : Int)] 3)) HA.out.2); clear HA; have HA := HA2; clear HA2)); (try (have HR2 := Lib.hid (And.intro (HR.out.1.alloc (.cells #[.int .i64 (k : Int)] 3)) HR.out.2); clear HR; have HR := HR2; clear HR2))
      clear hHeld
      refine hK.out _ _ ?_ (fun hHeld => ?_)
      · exact HS.out.pB
      clear hK K
      (try simp only [Act.put, List.setIfInBounds_toArray, List.set_cons_zero, List.set_cons_succ])
      refine wpAnyM_threeS 4 11 12 rfl rfl rfl (by kernel_rfl) (fun K hK => ?_) (fun K hK => ?_) (fun K hK => ?_)
      · go_simp
        (refine (pick_any _ 1 _ (fun _ => (k : Int)) _ HL.out (by omega)).mono ?_); rintro e w6 ⟨rfl, hb6⟩; (rw [EN.out]); have HS2 := Lib.hid (HS.out.down hb6); clear HS; have HS := HS2; clear HS2 HL; (try (have HA2 := Lib.hid (And.intro (HA.out.1.below hb6) HA.out.2); clear HA; have HA := HA2; clear HA2)); (try (have HR2 := Lib.hid (And.intro (HR.out.1.below hb6) HR.out.2); clear HR; have HR := HR2; clear HR2)); clear hb6
        (try dsimp only)
        (try simp only [Act.put, List.setIfInBounds_toArray, List.set_cons_zero, List.set_cons_succ])
        clear hHeld
        refine hK.out _ _ ?_ (fun hHeld => ?_)
        · exact HS.out.pB
        clear hK K
        (try simp only [Act.put, List.setIfInBounds_toArray, List.set_cons_zero, List.set_cons_succ])
        refine wpAnyM_threeS 6 11 12 rfl rfl rfl (by kernel_rfl) (fun K hK => ?_) (fun K hK => ?_) (fun K hK => ?_)
        · go_simp
          (refine (U5.out _ HS.out.fl.cell HS.out.fl.free).mono ?_); rintro e w7 ⟨rfl, hu7⟩; have HS2 := Lib.hid (HS.out.upd hbw hb4 hu7); clear HS; have HS := HS2; clear HS2; (try (have HA2 := Lib.hid (And.intro (HA.out.1.upd hu7 (by have := HA.out.2; simp; omega)) HA.out.2); clear HA; have HA := HA2; clear HA2)); (try (have HR2 := Lib.hid (And.intro (HR.out.1.upd hu7 (by have := HR.out.2; simp; omega)) HR.out.2); clear HR; have HR := HR2; clear HR2)); clear hu7
          (try dsimp only)
          (try simp only [Act.put, List.setIfInBounds_toArray, List.set_cons_zero, List.set_cons_succ])
          clear hHeld
          refine hK.out _ _ ?_ (fun hHeld => ?_)
          · exact HS.out.pB
          clear hK K
          (try simp only [Act.put, List.setIfInBounds_toArray, List.set_cons_zero, List.set_cons_succ])
          refine wpAnyM_take 7 (v := ?_) rfl (by kernel_rfl) (fun _ _ _ h => h) (Or.inl ⟨by rfl, ?_⟩) (by assumption) ?_
          rotate_left
          · (intro wx hSw; (try dsimp only at hSw); go_simp; (try with_reducible rfl))
          (try simp only [Act.put, List.setIfInBounds_toArray, List.set_cons_zero, List.set_cons_succ])
          refine wpAnyM_take 8 (v := ?_) rfl (by kernel_rfl) (fun _ _ _ h => h) (Or.inl ⟨by rfl, ?_⟩) (by assumption) ?_
          rotate_left
          · (intro wx hSw; (try dsimp only at hSw); go_simp; (try with_reducible rfl))
          (try simp only [Act.put, List.setIfInBounds_toArray, List.set_cons_zero, List.set_cons_succ])
          refine wpAnyM_take 9 (v := ?_) rfl (by kernel_rfl) (fun _ _ _ h => h) (Or.inl ⟨by rfl, ?_⟩) (by assumption) ?_
          rotate_left
          · (intro wx hSw; (try dsimp only at hSw); go_simp; (try with_reducible rfl))
          (try simp only [Act.put, List.setIfInBounds_toArray, List.set_cons_zero, List.set_cons_succ])
          refine wpAnyM_take 10 (v := ?_) rfl (by kernel_rfl) (fun _ _ _ h => h) (Or.inl ⟨by rfl, ?_⟩) (by assumption) ?_
          rotate_left
          · (intro wx hSw; (try dsimp only at hSw); go_simp; (try with_reducible rfl))
          (try simp only [Act.put, List.setIfInBounds_toArray, List.set_cons_zero, List.set_cons_succ])
          refine wpAnyM_twoS 11 12 rfl rfl (by kernel_rfl) (fun K hK => ?_) (fun K hK => ?_)
          · go_simp; have HA := Lib.hid (on_cov HS.out _ (by first | (simp; rfl) | rfl)); have HS2 := Lib.hid (HS.out.alloc (.cells Try.zeroCells29 29)); clear HS; have HS := HS2; clear HS2; (try (have HR2 := Lib.hid (And.intro (HR.out.1.alloc (.cells Try.zeroCells29 29)) HR.out.2); clear HR; have HR := HR2; clear HR2)); (try (have HL2 := Lib.hid (HL.out.below (Below.alloc (Below.refl _ _) (Nat.le_refl _) (.cells Try.zeroCells29 29))); clear HL; have HL := HL2; clear HL2))
            clear hHeld
            refine hK.out _ _ ?_ (fun hHeld => ?_)
            · exact HS.out.pB
            clear hK K
            (try simp only [Act.put, List.setIfInBounds_toArray, List.set_cons_zero, List.set_cons_succ])
            refine wpAnyM_oneS 12 rfl (by kernel_rfl) (fun K hK => ?_)
            go_simp; have HR := Lib.hid (on_row HS.out _ (by first | (simp; rfl) | rfl)); have HS2 := Lib.hid (HS.out.alloc (.cells #[.int .i64 0, .int .i64 0, .int .i64 0, .int .i64 0, .int .i64 0, .int .i64 0, .int .i64 0, .int .i64 0, .int .i64 0, .int .i64 0, .int .i64 0, .int .i64 0, .int .i64 0, .int .i64 0, .int .i64 0, .int .i64 0, .int .i64 0, .int .i64 0, .int .i64 0, .int .i64 0, .int .i64 0, .int .i64 0, .int .i64 0, .int .i64 0] 31)); clear HS; have HS := HS2; clear HS2; (try (have HA2 := Lib.hid (And.intro (HA.out.1.alloc (.cells #[.int .i64 0, .int .i64 0, .int .i64 0, .int .i64 0, .int .i64 0, .int .i64 0, .int .i64 0, .int .i64 0, .int .i64 0, .int .i64 0, .int .i64 0, .int .i64 0, .int .i64 0, .int .i64 0, .int .i64 0, .int .i64 0, .int .i64 0, .int .i64 0, .int .i64 0, .int .i64 0, .int .i64 0, .int .i64 0, .int .i64 0, .int .i64 0] 31)) HA.out.2); clear HA; have HA := HA2; clear HA2)); (try (have HL2 := Lib.hid (HL.out.below (Below.alloc (Below.refl _ _) (Nat.le_refl _) (.cells #[.int .i64 0, .int .i64 0, .int .i64 0, .int .i64 0, .int .i64 0, .int .i64 0, .int .i64 0, .int .i64 0, .int .i64 0, .int .i64 0, .int .i64 0, .int .i64 0, .int .i64 0, .int .i64 0, .int .i64 0, .int .i64 0, .int .i64 0, .int .i64 0, .int .i64 0, .int .i64 0, .int .i64 0, .int .i64 0, .int .i64 0, .int .i64 0] 31))); clear HL; have HL := HL2; clear HL2))
            clear hHeld
            refine hK.out _ _ ?_ (fun hHeld => ?_)
            · exact HS.out.pB
            clear hK K
            (try simp only [Act.put, List.setIfInBounds_toArray, List.set_cons_zero, List.set_cons_succ])
            have HE := Lib.hid (on_end (F := Fq) (G := Gq) HS.out hbw hb4 HA.out HR.out); have HS2 := Lib.hid (HS.out.row (F := Fq) hbw hb4 HA.out); clear HS; have HS := HS2; clear HS2
            clear hHeld
            refine wpAnyM_doneS 13 rfl (by kernel_rfl) (by rfl) (run_store_row 29 (.tmp 9) (.tmp 55) rfl _ rfl rfl HA.out.1 icov) ?_ (fun hHeld => ?_)
            · exact HS.out.pB
            (try simp only [Act.put])
            have HS2 := Lib.hid HE.out.2.2.2; clear HS; have HS := HS2; clear HS2
            clear hHeld
            refine wpAnyM_doneS 14 rfl (by kernel_rfl) (by rfl) (run_store_row 31 (.tmp 10) (.tmp 56) rfl _ rfl rfl HE.out.1 irow) ?_ (fun hHeld => ?_)
            · exact HS.out.pB
            (try simp only [Act.put])
            refine wpAnyM_one 15 rfl (by kernel_rfl) (fun K hK => ?_)
            go_simp
            refine hK.out _ _ (.inl (by kernel_rfl)) (fun _ => ?_)
            clear hK K
            (try simp only [Act.put, List.setIfInBounds_toArray, List.set_cons_zero, List.set_cons_succ])
            refine wpAnyM_done (by kernel_rfl) ?_ _
            (go_wp2_with fail; go_meet; exact ⟨_, _, rfl, rfl, rfl, Lib.hid HE.out.2⟩)
          · go_simp; have HR := Lib.hid (on_row HS.out _ (by first | (simp; rfl) | rfl)); have HS2 := Lib.hid (HS.out.alloc (.cells #[.int .i64 0, .int .i64 0, .int .i64 0, .int .i64 0, .int .i64 0, .int .i64 0, .int .i64 0, .int .i64 0, .int .i64 0, .int .i64 0, .int .i64 0, .int .i64 0, .int .i64 0, .int .i64 0, .int .i64 0, .int .i64 0, .int .i64 0, .int .i64 0, .int .i64 0, .int .i64 0, .int .i64 0, .int .i64 0, .int .i64 0, .int .i64 0] 31)); clear HS; have HS := HS2; clear HS2; (try (have HA2 := Lib.hid (And.intro (HA.out.1.alloc (.cells #[.int .i64 0, .int .i64 0, .int .i64 0, .int .i64 0, .int .i64 0, .int .i64 0, .int .i64 0, .int .i64 0, .int .i64 0, .int .i64 0, .int .i64 0, .int .i64 0, .int .i64 0, .int .i64 0, .int .i64 0, .int .i64 0, .int .i64 0, .int .i64 0, .int .i64 0, .int .i64 0, .int .i64 0, .int .i64 0, .int .i64 0, .int .i64 0] 31)) HA.out.2); clear HA; have HA := HA2; clear HA2)); (try (have HL2 := Lib.hid (HL.out.below (Below.alloc (Below.refl _ _) (Nat.le_refl _) (.cells #[.int .i64 0, .int .i64 0, .int .i64 0, .int .i64 0, .int .i64 0, .int .i64 0, .int .i64 0, .int .i64 0, .int .i64 0, .int .i64 0, .int .i64 0, .int .i64 0, .int .i64 0, .int .i64 0, .int .i64 0, .int .i64 0, .int .i64 0, .int .i64 0, .int .i64 0, .int .i64 0, .int .i64 0, .int .i64 0, .int .i64 0, .int .i64 0] 31))); clear HL; have HL := HL2; clear HL2))
            clear hHeld
            refine hK.out _ _ ?_ (fun hHeld => ?_)
            · exact HS.out.pB
            clear hK K
            (try simp only [Act.put, List.setIfInBounds_toArray, List.set_cons_zero, List.set_cons_succ])
            refine wpAnyM_oneS 11 rfl (by kernel_rfl) (fun K hK => ?_)
            go_simp; have HA := Lib.hid (on_cov HS.out _ (by first | (simp; rfl) | rfl)); have HS2 := Lib.hid (HS.out.alloc (.cells Try.zeroCells29 29)); clear HS; have HS := HS2; clear HS2; (try (have HR2 := Lib.hid (And.intro (HR.out.1.alloc (.cells Try.zeroCells29 29)) HR.out.2); clear HR; have HR := HR2; clear HR2)); (try (have HL2 := Lib.hid (HL.out.below (Below.alloc (Below.refl _ _) (Nat.le_refl _) (.cells Try.zeroCells29 29))); clear HL; have HL := HL2; clear HL2))
            clear hHeld
            refine hK.out _ _ ?_ (fun hHeld => ?_)
            · exact HS.out.pB
            clear hK K
            (try simp only [Act.put, List.setIfInBounds_toArray, List.set_cons_zero, List.set_cons_succ])
            have HE := Lib.hid (on_end (F := Fq) (G := Gq) HS.out hbw hb4 HA.out HR.out); have HS2 := Lib.hid (HS.out.row (F := Fq) hbw hb4 HA.out); clear HS; have HS := HS2; clear HS2
            clear hHeld
            refine wpAnyM_doneS 13 rfl (by kernel_rfl) (by rfl) (run_store_row 29 (.tmp 9) (.tmp 55) rfl _ rfl rfl HA.out.1 icov) ?_ (fun hHeld => ?_)
            · exact HS.out.pB
            (try simp only [Act.put])
            have HS2 := Lib.hid HE.out.2.2.2; clear HS; have HS := HS2; clear HS2
            clear hHeld
            refine wpAnyM_doneS 14 rfl (by kernel_rfl) (by rfl) (run_store_row 31 (.tmp 10) (.tmp 56) rfl _ rfl rfl HE.out.1 irow) ?_ (fun hHeld => ?_)
            · exact HS.out.pB
            (try simp only [Act.put])
            refine wpAnyM_one 15 rfl (by kernel_rfl) (fun K hK => ?_)
            go_simp
            refine hK.out _ _ (.inl (by kernel_rfl)) (fun _ => ?_)
            clear hK K
            (try simp only [Act.put, List.setIfInBounds_toArray, List.set_cons_zero, List.set_cons_succ])
            refine wpAnyM_done (by kernel_rfl) ?_ _
            (go_wp2_with fail; go_meet; exact ⟨_, _, rfl, rfl, rfl, Lib.hid HE.out.2⟩)
        · go_simp; have HA := Lib.hid (on_cov HS.out _ (by first | (simp; rfl) | rfl)); have HS2 := Lib.hid (HS.out.alloc (.cells Try.zeroCells29 29)); clear HS; have HS := HS2; clear HS2; (try (have HR2 := Lib.hid (And.intro (HR.out.1.alloc (.cells Try.zeroCells29 29)) HR.out.2); clear HR; have HR := HR2; clear HR2)); (try (have HL2 := Lib.hid (HL.out.below (Below.alloc (Below.refl _ _) (Nat.le_refl _) (.cells Try.zeroCells29 29))); clear HL; have HL := HL2; clear HL2))
          clear hHeld
          refine hK.out _ _ ?_ (fun hHeld => ?_)
          · exact HS.out.pB
          clear hK K
          (try simp only [Act.put, List.setIfInBounds_toArray, List.set_cons_zero, List.set_cons_succ])
          refine wpAnyM_twoS 6 12 rfl rfl (by kernel_rfl) (fun K hK => ?_) (fun K hK => ?_)
          · go_simp
            (refine (U5.out _ HS.out.fl.cell HS.out.fl.free).mono ?_); rintro e w7 ⟨rfl, hu7⟩; have HS2 := Lib.hid (HS.out.upd hbw hb4 hu7); clear HS; have HS := HS2; clear HS2; (try (have HA2 := Lib.hid (And.intro (HA.out.1.upd hu7 (by have := HA.out.2; simp; omega)) HA.out.2); clear HA; have HA := HA2; clear HA2)); (try (have HR2 := Lib.hid (And.intro (HR.out.1.upd hu7 (by have := HR.out.2; simp; omega)) HR.out.2); clear HR; have HR := HR2; clear HR2)); clear hu7
            (try dsimp only)
            (try simp only [Act.put, List.setIfInBounds_toArray, List.set_cons_zero, List.set_cons_succ])
            clear hHeld
            refine hK.out _ _ ?_ (fun hHeld => ?_)
            · exact HS.out.pB
            clear hK K
            (try simp only [Act.put, List.setIfInBounds_toArray, List.set_cons_zero, List.set_cons_succ])
            refine wpAnyM_take 7 (v := ?_) rfl (by kernel_rfl) (fun _ _ _ h => h) (Or.inl ⟨by rfl, ?_⟩) (by assumption) ?_
            rotate_left
            · (intro wx hSw; (try dsimp only at hSw); go_simp; (try with_reducible rfl))
            (try simp only [Act.put, List.setIfInBounds_toArray, List.set_cons_zero, List.set_cons_succ])
            refine wpAnyM_take 8 (v := ?_) rfl (by kernel_rfl) (fun _ _ _ h => h) (Or.inl ⟨by rfl, ?_⟩) (by assumption) ?_
            rotate_left
            · (intro wx hSw; (try dsimp only at hSw); go_simp; (try with_reducible rfl))
            (try simp only [Act.put, List.setIfInBounds_toArray, List.set_cons_zero, List.set_cons_succ])
            refine wpAnyM_take 9 (v := ?_) rfl (by kernel_rfl) (fun _ _ _ h => h) (Or.inl ⟨by rfl, ?_⟩) (by assumption) ?_
            rotate_left
            · (intro wx hSw; (try dsimp only at hSw); go_simp; (try with_reducible rfl))
            (try simp only [Act.put, List.setIfInBounds_toArray, List.set_cons_zero, List.set_cons_succ])
            refine wpAnyM_take 10 (v := ?_) rfl (by kernel_rfl) (fun _ _ _ h => h) (Or.inl ⟨by rfl, ?_⟩) (by assumption) ?_
            rotate_left
            · (intro wx hSw; (try dsimp only at hSw); go_simp; (try with_reducible rfl))
            (try simp only [Act.put, List.setIfInBounds_toArray, List.set_cons_zero, List.set_cons_succ])
            refine wpAnyM_oneS 12 rfl (by kernel_rfl) (fun K hK => ?_)
            go_simp; have HR := Lib.hid (on_row HS.out _ (by first | (simp; rfl) | rfl)); have HS2 := Lib.hid (HS.out.alloc (.cells #[.int .i64 0, .int .i64 0, .int .i64 0, .int .i64 0, .int .i64 0, .int .i64 0, .int .i64 0, .int .i64 0, .int .i64 0, .int .i64 0, .int .i64 0, .int .i64 0, .int .i64 0, .int .i64 0, .int .i64 0, .int .i64 0, .int .i64 0, .int .i64 0, .int .i64 0, .int .i64 0, .int .i64 0, .int .i64 0, .int .i64 0, .int .i64 0] 31)); clear HS; have HS := HS2; clear HS2; (try (have HA2 := Lib.hid (And.intro (HA.out.1.alloc (.cells #[.int .i64 0, .int .i64 0, .int .i64 0, .int .i64 0, .int .i64 0, .int .i64 0, .int .i64 0, .int .i64 0, .int .i64 0, .int .i64 0, .int .i64 0, .int .i64 0, .int .i64 0, .int .i64 0, .int .i64 0, .int .i64 0, .int .i64 0, .int .i64 0, .int .i64 0, .int .i64 0, .int .i64 0, .int .i64 0, .int .i64 0, .int .i64 0] 31)) HA.out.2); clear HA; have HA := HA2; clear HA2)); (try (have HL2 := Lib.hid (HL.out.below (Below.alloc (Below.refl _ _) (Nat.le_refl _) (.cells #[.int .i64 0, .int .i64 0, .int .i64 0, .int .i64 0, .int .i64 0, .int .i64 0, .int .i64 0, .int .i64 0, .int .i64 0, .int .i64 0, .int .i64 0, .int .i64 0, .int .i64 0, .int .i64 0, .int .i64 0, .int .i64 0, .int .i64 0, .int .i64 0, .int .i64 0, .int .i64 0, .int .i64 0, .int .i64 0, .int .i64 0, .int .i64 0] 31))); clear HL; have HL := HL2; clear HL2))
            clear hHeld
            refine hK.out _ _ ?_ (fun hHeld => ?_)
            · exact HS.out.pB
            clear hK K
            (try simp only [Act.put, List.setIfInBounds_toArray, List.set_cons_zero, List.set_cons_succ])
            have HE := Lib.hid (on_end (F := Fq) (G := Gq) HS.out hbw hb4 HA.out HR.out); have HS2 := Lib.hid (HS.out.row (F := Fq) hbw hb4 HA.out); clear HS; have HS := HS2; clear HS2
            clear hHeld
            refine wpAnyM_doneS 13 rfl (by kernel_rfl) (by rfl) (run_store_row 29 (.tmp 9) (.tmp 55) rfl _ rfl rfl HA.out.1 icov) ?_ (fun hHeld => ?_)
            · exact HS.out.pB
            (try simp only [Act.put])
            have HS2 := Lib.hid HE.out.2.2.2; clear HS; have HS := HS2; clear HS2
            clear hHeld
            refine wpAnyM_doneS 14 rfl (by kernel_rfl) (by rfl) (run_store_row 31 (.tmp 10) (.tmp 56) rfl _ rfl rfl HE.out.1 irow) ?_ (fun hHeld => ?_)
            · exact HS.out.pB
            (try simp only [Act.put])
            refine wpAnyM_one 15 rfl (by kernel_rfl) (fun K hK => ?_)
            go_simp
            refine hK.out _ _ (.inl (by kernel_rfl)) (fun _ => ?_)
            clear hK K
            (try simp only [Act.put, List.setIfInBounds_toArray, List.set_cons_zero, List.set_cons_succ])
            refine wpAnyM_done (by kernel_rfl) ?_ _
            (go_wp2_with fail; go_meet; exact ⟨_, _, rfl, rfl, rfl, Lib.hid HE.out.2⟩)
          · go_simp; have HR := Lib.hid (on_row HS.out _ (by first | (simp; rfl) | rfl)); have HS2 := Lib.hid (HS.out.alloc (.cells #[.int .i64 0, .int .i64 0, .int .i64 0, .int .i64 0, .int .i64 0, .int .i64 0, .int .i64 0, .int .i64 0, .int .i64 0, .int .i64 0, .int .i64 0, .int .i64 0, .int .i64 0, .int .i64 0, .int .i64 0, .int .i64 0, .int .i64 0, .int .i64 0, .int .i64 0, .int .i64 0, .int .i64 0, .int .i64 0, .int .i64 0, .int .i64 0] 31)); clear HS; have HS := HS2; clear HS2; (try (have HA2 := Lib.hid (And.intro (HA.out.1.alloc (.cells #[.int .i64 0, .int .i64 0, .int .i64 0, .int .i64 0, .int .i64 0, .int .i64 0, .int .i64 0, .int .i64 0, .int .i64 0, .int .i64 0, .int .i64 0, .int .i64 0, .int .i64 0, .int .i64 0, .int .i64 0, .int .i64 0, .int .i64 0, .int .i64 0, .int .i64 0, .int .i64 0, .int .i64 0, .int .i64 0, .int .i64 0, .int .i64 0] 31)) HA.out.2); clear HA; have HA := HA2; clear HA2)); (try (have HL2 := Lib.hid (HL.out.below (Below.alloc (Below.refl _ _) (Nat.le_refl _) (.cells #[.int .i64 0, .int .i64 0, .int .i64 0, .int .i64 0, .int .i64 0, .int .i64 0, .int .i64 0, .int .i64 0, .int .i64 0, .int .i64 0, .int .i64 0, .int .i64 0, .int .i64 0, .int .i64 0, .int .i64 0, .int .i64 0, .int .i64 0, .int .i64 0, .int .i64 0, .int .i64 0, .int .i64 0, .int .i64 0, .int .i64 0, .int .i64 0] 31))); clear HL; have HL := HL2; clear HL2))
            clear hHeld
            refine hK.out _ _ ?_ (fun hHeld => ?_)
            · exact HS.out.pB
            clear hK K
            (try simp only [Act.put, List.setIfInBounds_toArray, List.set_cons_zero, List.set_cons_succ])
            refine wpAnyM_oneS 6 rfl (by kernel_rfl) (fun K hK => ?_)
            go_simp
            (refine (U5.out _ HS.out.fl.cell HS.out.fl.free).mono ?_); rintro e w7 ⟨rfl, hu7⟩; have HS2 := Lib.hid (HS.out.upd hbw hb4 hu7); clear HS; have HS := HS2; clear HS2; (try (have HA2 := Lib.hid (And.intro (HA.out.1.upd hu7 (by have := HA.out.2; simp; omega)) HA.out.2); clear HA; have HA := HA2; clear HA2)); (try (have HR2 := Lib.hid (And.intro (HR.out.1.upd hu7 (by have := HR.out.2; simp; omega)) HR.out.2); clear HR; have HR := HR2; clear HR2)); clear hu7
            (try dsimp only)
            (try simp only [Act.put, List.setIfInBounds_toArray, List.set_cons_zero, List.set_cons_succ])
            clear hHeld
            refine hK.out _ _ ?_ (fun hHeld => ?_)
            · exact HS.out.pB
            clear hK K
            (try simp only [Act.put, List.setIfInBounds_toArray, List.set_cons_zero, List.set_cons_succ])
            refine wpAnyM_take 7 (v := ?_) rfl (by kernel_rfl) (fun _ _ _ h => h) (Or.inl ⟨by rfl, ?_⟩) (by assumption) ?_
            rotate_left
            · (intro wx hSw; (try dsimp only at hSw); go_simp; (try with_reducible rfl))
            (try simp only [Act.put, List.setIfInBounds_toArray, List.set_cons_zero, List.set_cons_succ])
            refine wpAnyM_take 8 (v := ?_) rfl (by kernel_rfl) (fun _ _ _ h => h) (Or.inl ⟨by rfl, ?_⟩) (by assumption) ?_
            rotate_left
            · (intro wx hSw; (try dsimp only at hSw); go_simp; (try with_reducible rfl))
            (try simp only [Act.put, List.setIfInBounds_toArray, List.set_cons_zero, List.set_cons_succ])
            refine wpAnyM_take 9 (v := ?_) rfl (by kernel_rfl) (fun _ _ _ h => h) (Or.inl ⟨by rfl, ?_⟩) (by assumption) ?_
            rotate_left
            · (intro wx hSw; (try dsimp only at hSw); go_simp; (try with_reducible rfl))
            (try simp only [Act.put, List.setIfInBounds_toArray, List.set_cons_zero, List.set_cons_succ])
            refine wpAnyM_take 10 (v := ?_) rfl (by kernel_rfl) (fun _ _ _ h => h) (Or.inl ⟨by rfl, ?_⟩) (by assumption) ?_
            rotate_left
            · (intro wx hSw; (try dsimp only at hSw); go_simp; (try with_reducible rfl))
            (try simp only [Act.put, List.setIfInBounds_toArray, List.set_cons_zero, List.set_cons_succ])
            have HE := Lib.hid (on_end (F := Fq) (G := Gq) HS.out hbw hb4 HA.out HR.out); have HS2 := Lib.hid (HS.out.row (F := Fq) hbw hb4 HA.out); clear HS; have HS := HS2; clear HS2
            clear hHeld
            refine wpAnyM_doneS 13 rfl (by kernel_rfl) (by rfl) (run_store_row 29 (.tmp 9) (.tmp 55) rfl _ rfl rfl HA.out.1 icov) ?_ (fun hHeld => ?_)
            · exact HS.out.pB
            (try simp only [Act.put])
            have HS2 := Lib.hid HE.out.2.2.2; clear HS; have HS := HS2; clear HS2
            clear hHeld
            refine wpAnyM_doneS 14 rfl (by kernel_rfl) (by rfl) (run_store_row 31 (.tmp 10) (.tmp 56) rfl _ rfl rfl HE.out.1 irow) ?_ (fun hHeld => ?_)
            · exact HS.out.pB
            (try simp only [Act.put])
            refine wpAnyM_one 15 rfl (by kernel_rfl) (fun K hK => ?_)
            go_simp
            refine hK.out _ _ (.inl (by kernel_rfl)) (fun _ => ?_)
            clear hK K
            (try simp only [Act.put, List.setIfInBounds_toArray, List.set_cons_zero, List.set_cons_succ])
            refine wpAnyM_done (by kernel_rfl) ?_ _
            (go_wp2_with fail; go_meet; exact ⟨_, _, rfl, rfl, rfl, Lib.hid HE.out.2⟩)
        · go_simp; have HR := Lib.hid (on_row HS.out _ (by first | (simp; rfl) | rfl)); have HS2 := Lib.hid (HS.out.alloc (.cells #[.int .i64 0, .int .i64 0, .int .i64 0, .int .i64 0, .int .i64 0, .int .i64 0, .int .i64 0, .int .i64 0, .int .i64 0, .int .i64 0, .int .i64 0, .int .i64 0, .int .i64 0, .int .i64 0, .int .i64 0, .int .i64 0, .int .i64 0, .int .i64 0, .int .i64 0, .int .i64 0, .int .i64 0, .int .i64 0, .int .i64 0, .int .i64 0] 31)); clear HS; have HS := HS2; clear HS2; (try (have HA2 := Lib.hid (And.intro (HA.out.1.alloc (.cells #[.int .i64 0, .int .i64 0, .int .i64 0, .int .i64 0, .int .i64 0, .int .i64 0, .int .i64 0, .int .i64 0, .int .i64 0, .int .i64 0, .int .i64 0, .int .i64 0, .int .i64 0, .int .i64 0, .int .i64 0, .int .i64 0, .int .i64 0, .int .i64 0, .int .i64 0, .int .i64 0, .int .i64 0, .int .i64 0, .int .i64 0, .int .i64 0] 31)) HA.out.2); clear HA; have HA := HA2; clear HA2)); (try (have HL2 := Lib.hid (HL.out.below (Below.alloc (Below.refl _ _) (Nat.le_refl _) (.cells #[.int .i64 0, .int .i64 0, .int .i64 0, .int .i64 0, .int .i64 0, .int .i64 0, .int .i64 0, .int .i64 0, .int .i64 0, .int .i64 0, .int .i64 0, .int .i64 0, .int .i64 0, .int .i64 0, .int .i64 0, .int .i64 0, .int .i64 0, .int .i64 0, .int .i64 0, .int .i64 0, .int .i64 0, .int .i64 0, .int .i64 0, .int .i64 0] 31))); clear HL; have HL := HL2; clear HL2))
          clear hHeld
          refine hK.out _ _ ?_ (fun hHeld => ?_)
          · exact HS.out.pB
          clear hK K
          (try simp only [Act.put, List.setIfInBounds_toArray, List.set_cons_zero, List.set_cons_succ])
          refine wpAnyM_twoS 6 11 rfl rfl (by kernel_rfl) (fun K hK => ?_) (fun K hK => ?_)
          · go_simp
            (refine (U5.out _ HS.out.fl.cell HS.out.fl.free).mono ?_); rintro e w7 ⟨rfl, hu7⟩; have HS2 := Lib.hid (HS.out.upd hbw hb4 hu7); clear HS; have HS := HS2; clear HS2; (try (have HA2 := Lib.hid (And.intro (HA.out.1.upd hu7 (by have := HA.out.2; simp; omega)) HA.out.2); clear HA; have HA := HA2; clear HA2)); (try (have HR2 := Lib.hid (And.intro (HR.out.1.upd hu7 (by have := HR.out.2; simp; omega)) HR.out.2); clear HR; have HR := HR2; clear HR2)); clear hu7
            (try dsimp only)
            (try simp only [Act.put, List.setIfInBounds_toArray, List.set_cons_zero, List.set_cons_succ])
            clear hHeld
            refine hK.out _ _ ?_ (fun hHeld => ?_)
            · exact HS.out.pB
            clear hK K
            (try simp only [Act.put, List.setIfInBounds_toArray, List.set_cons_zero, List.set_cons_succ])
            refine wpAnyM_take 7 (v := ?_) rfl (by kernel_rfl) (fun _ _ _ h => h) (Or.inl ⟨by rfl, ?_⟩) (by assumption) ?_
            rotate_left
            · (intro wx hSw; (try dsimp only at hSw); go_simp; (try with_reducible rfl))
            (try simp only [Act.put, List.setIfInBounds_toArray, List.set_cons_zero, List.set_cons_succ])
            refine wpAnyM_take 8 (v := ?_) rfl (by kernel_rfl) (fun _ _ _ h => h) (Or.inl ⟨by rfl, ?_⟩) (by assumption) ?_
            rotate_left
            · (intro wx hSw; (try dsimp only at hSw); go_simp; (try with_reducible rfl))
            (try simp only [Act.put, List.setIfInBounds_toArray, List.set_cons_zero, List.set_cons_succ])
            refine wpAnyM_take 9 (v := ?_) rfl (by kernel_rfl) (fun _ _ _ h => h) (Or.inl ⟨by rfl, ?_⟩) (by assumption) ?_
            rotate_left
            · (intro wx hSw; (try dsimp only at hSw); go_simp; (try with_reducible rfl))
            (try simp only [Act.put, List.setIfInBounds_toArray, List.set_cons_zero, List.set_cons_succ])
            refine wpAnyM_take 10 (v := ?_) rfl (by kernel_rfl) (fun _ _ _ h => h) (Or.inl ⟨by rfl, ?_⟩) (by assumption) ?_
            rotate_left
            · (intro wx hSw; (try dsimp only at hSw); go_simp; (try with_reducible rfl))
            (try simp only [Act.put, List.setIfInBounds_toArray, List.set_cons_zero, List.set_cons_succ])
            refine wpAnyM_oneS 11 rfl (by kernel_rfl) (fun K hK => ?_)
            go_simp; have HA := Lib.hid (on_cov HS.out _ (by first | (simp; rfl) | rfl)); have HS2 := Lib.hid (HS.out.alloc (.cells Try.zeroCells29 29)); clear HS; have HS := HS2; clear HS2; (try (have HR2 := Lib.hid (And.intro (HR.out.1.alloc (.cells Try.zeroCells29 29)) HR.out.2); clear HR; have HR := HR2; clear HR2)); (try (have HL2 := Lib.hid (HL.out.below (Below.alloc (Below.refl _ _) (Nat.le_refl _) (.cells Try.zeroCells29 29))); clear HL; have HL := HL2; clear HL2))
            clear hHeld
            refine hK.out _ _ ?_ (fun hHeld => ?_)
            · exact HS.out.pB
            clear hK K
            (try simp only [Act.put, List.setIfInBounds_toArray, List.set_cons_zero, List.set_cons_succ])
            have HE := Lib.hid (on_end (F := Fq) (G := Gq) HS.out hbw hb4 HA.out HR.out); have HS2 := Lib.hid (HS.out.row (F := Fq) hbw hb4 HA.out); clear HS; have HS := HS2; clear HS2
            clear hHeld
            refine wpAnyM_doneS 13 rfl (by kernel_rfl) (by rfl) (run_store_row 29 (.tmp 9) (.tmp 55) rfl _ rfl rfl HA.out.1 icov) ?_ (fun hHeld => ?_)
            · exact HS.out.pB
            (try simp only [Act.put])
            have HS2 := Lib.hid HE.out.2.2.2; clear HS; have HS := HS2; clear HS2
            clear hHeld
            refine wpAnyM_doneS 14 rfl (by kernel_rfl) (by rfl) (run_store_row 31 (.tmp 10) (.tmp 56) rfl _ rfl rfl HE.out.1 irow) ?_ (fun hHeld => ?_)
            · exact HS.out.pB
            (try simp only [Act.put])
            refine wpAnyM_one 15 rfl (by kernel_rfl) (fun K hK => ?_)
            go_simp
            refine hK.out _ _ (.inl (by kernel_rfl)) (fun _ => ?_)
            clear hK K
            (try simp only [Act.put, List.setIfInBounds_toArray, List.set_cons_zero, List.set_cons_succ])
            refine wpAnyM_done (by kernel_rfl) ?_ _
            (go_wp2_with fail; go_meet; exact ⟨_, _, rfl, rfl, rfl, Lib.hid HE.out.2⟩)
          · go_simp; have HA := Lib.hid (on_cov HS.out _ (by first | (simp; rfl) | rfl)); have HS2 := Lib.hid (HS.out.alloc (.cells Try.zeroCells29 29)); clear HS; have HS := HS2; clear HS2; (try (have HR2 := Lib.hid (And.intro (HR.out.1.alloc (.cells Try.zeroCells29 29)) HR.out.2); clear HR; have HR := HR2; clear HR2)); (try (have HL2 := Lib.hid (HL.out.below (Below.alloc (Below.refl _ _) (Nat.le_refl _) (.cells Try.zeroCells29 29))); clear HL; have HL := HL2; clear HL2))
            clear hHeld
            refine hK.out _ _ ?_ (fun hHeld => ?_)
            · exact HS.out.pB
            clear hK K
            (try simp only [Act.put, List.setIfInBounds_toArray, List.set_cons_zero, List.set_cons_succ])
            refine wpAnyM_oneS 6 rfl (by kernel_rfl) (fun K hK => ?_)
            go_simp
            (refine (U5.out _ HS.out.fl.cell HS.out.fl.free).mono ?_); rintro e w7 ⟨rfl, hu7⟩; have HS2 := Lib.hid (HS.out.upd hbw hb4 hu7); clear HS; have HS := HS2; clear HS2; (try (have HA2 := Lib.hid (And.intro (HA.out.1.upd hu7 (by have := HA.out.2; simp; omega)) HA.out.2); clear HA; have HA := HA2; clear HA2)); (try (have HR2 := Lib.hid (And.intro (HR.out.1.upd hu7 (by have := HR.out.2; simp; omega)) HR.out.2); clear HR; have HR := HR2; clear HR2)); clear hu7
            (try dsimp only)
            (try simp only [Act.put, List.setIfInBounds_toArray, List.set_cons_zero, List.set_cons_succ])
            clear hHeld
            refine hK.out _ _ ?_ (fun hHeld => ?_)
            · exact HS.out.pB
            clear hK K
            (try simp only [Act.put, List.setIfInBounds_toArray, List.set_cons_zero, List.set_cons_succ])
            refine wpAnyM_take 7 (v := ?_) rfl (by kernel_rfl) (fun _ _ _ h => h) (Or.inl ⟨by rfl, ?_⟩) (by assumption) ?_
            rotate_left
            · (intro wx hSw; (try dsimp only at hSw); go_simp; (try with_reducible rfl))
            (try simp only [Act.put, List.setIfInBounds_toArray, List.set_cons_zero, List.set_cons_succ])
            refine wpAnyM_take 8 (v := ?_) rfl (by kernel_rfl) (fun _ _ _ h => h) (Or.inl ⟨by rfl, ?_⟩) (by assumption) ?_
            rotate_left
            · (intro wx hSw; (try dsimp only at hSw); go_simp; (try with_reducible rfl))
            (try simp only [Act.put, List.setIfInBounds_toArray, List.set_cons_zero, List.set_cons_succ])
            refine wpAnyM_take 9 (v := ?_) rfl (by kernel_rfl) (fun _ _ _ h => h) (Or.inl ⟨by rfl, ?_⟩) (by assumption) ?_
            rotate_left
            · (intro wx hSw; (try dsimp only at hSw); go_simp; (try with_reducible rfl))
            (try simp only [Act.put, List.setIfInBounds_toArray, List.set_cons_zero, List.set_cons_succ])
            refine wpAnyM_take 10 (v := ?_) rfl (by kernel_rfl) (fun _ _ _ h => h) (Or.inl ⟨by rfl, ?_⟩) (by assumption) ?_
            rotate_left
            · (intro wx hSw; (try dsimp only at hSw); go_simp; (try with_reducible rfl))
            (try simp only [Act.put, List.setIfInBounds_toArray, List.set_cons_zero, List.set_cons_succ])
            have HE := Lib.hid (on_end (F := Fq) (G := Gq) HS.out hbw hb4 HA.out HR.out); have HS2 := Lib.hid (HS.out.row (F := Fq) hbw hb4 HA.out); clear HS; have HS := HS2; clear HS2
            clear hHeld
            refine wpAnyM_doneS 13 rfl (by kernel_rfl) (by rfl) (run_store_row 29 (.tmp 9) (.tmp 55) rfl _ rfl rfl HA.out.1 icov) ?_ (fun hHeld => ?_)
            · exact HS.out.pB
            (try simp only [Act.put])
            have HS2 := Lib.hid HE.out.2.2.2; clear HS; have HS := HS2; clear HS2
            clear hHeld
            refine wpAnyM_doneS 14 rfl (by kernel_rfl) (by rfl) (run_store_row 31 (.tmp 10) (.tmp 56) rfl _ rfl rfl HE.out.1 irow) ?_ (fun hHeld => ?_)
            · exact HS.out.pB
            (try simp only [Act.put])
            refine wpAnyM_one 15 rfl (by kernel_rfl) (fun K hK => ?_)
            go_simp
            refine hK.out _ _ (.inl (by kernel_rfl)) (fun _ => ?_)
            clear hK K
            (try simp only [Act.put, List.setIfInBounds_toArray, List.set_cons_zero, List.set_cons_succ])
            refine wpAnyM_done (by kernel_rfl) ?_ _
            (go_wp2_with fail; go_meet; exact ⟨_, _, rfl, rfl, rfl, Lib.hid HE.out.2⟩)
      · go_simp; have HA := Lib.hid (on_cov HS.out _ (by first | (simp; rfl) | rfl)); have HS2 := Lib.hid (HS.out.alloc (.cells Try.zeroCells29 29)); clear HS; have HS := HS2; clear HS2; (try (have HR2 := Lib.hid (And.intro (HR.out.1.alloc (.cells Try.zeroCells29 29)) HR.out.2); clear HR; have HR := HR2; clear HR2)); (try (have HL2 := Lib.hid (HL.out.below (Below.alloc (Below.refl _ _) (Nat.le_refl _) (.cells Try.zeroCells29 29))); clear HL; have HL := HL2; clear HL2))
        clear hHeld
        refine hK.out _ _ ?_ (fun hHeld => ?_)
        · exact HS.out.pB
        clear hK K
        (try simp only [Act.put, List.setIfInBounds_toArray, List.set_cons_zero, List.set_cons_succ])
        refine wpAnyM_twoS 4 12 rfl rfl (by kernel_rfl) (fun K hK => ?_) (fun K hK => ?_)
        · go_simp
          (refine (pick_any _ 1 _ (fun _ => (k : Int)) _ HL.out (by omega)).mono ?_); rintro e w6 ⟨rfl, hb6⟩; (rw [EN.out]); have HS2 := Lib.hid (HS.out.down hb6); clear HS; have HS := HS2; clear HS2 HL; (try (have HA2 := Lib.hid (And.intro (HA.out.1.below hb6) HA.out.2); clear HA; have HA := HA2; clear HA2)); (try (have HR2 := Lib.hid (And.intro (HR.out.1.below hb6) HR.out.2); clear HR; have HR := HR2; clear HR2)); clear hb6
          (try dsimp only)
          (try simp only [Act.put, List.setIfInBounds_toArray, List.set_cons_zero, List.set_cons_succ])
          clear hHeld
          refine hK.out _ _ ?_ (fun hHeld => ?_)
          · exact HS.out.pB
          clear hK K
          (try simp only [Act.put, List.setIfInBounds_toArray, List.set_cons_zero, List.set_cons_succ])
          refine wpAnyM_twoS 6 12 rfl rfl (by kernel_rfl) (fun K hK => ?_) (fun K hK => ?_)
          · go_simp
            (refine (U5.out _ HS.out.fl.cell HS.out.fl.free).mono ?_); rintro e w7 ⟨rfl, hu7⟩; have HS2 := Lib.hid (HS.out.upd hbw hb4 hu7); clear HS; have HS := HS2; clear HS2; (try (have HA2 := Lib.hid (And.intro (HA.out.1.upd hu7 (by have := HA.out.2; simp; omega)) HA.out.2); clear HA; have HA := HA2; clear HA2)); (try (have HR2 := Lib.hid (And.intro (HR.out.1.upd hu7 (by have := HR.out.2; simp; omega)) HR.out.2); clear HR; have HR := HR2; clear HR2)); clear hu7
            (try dsimp only)
            (try simp only [Act.put, List.setIfInBounds_toArray, List.set_cons_zero, List.set_cons_succ])
            clear hHeld
            refine hK.out _ _ ?_ (fun hHeld => ?_)
            · exact HS.out.pB
            clear hK K
            (try simp only [Act.put, List.setIfInBounds_toArray, List.set_cons_zero, List.set_cons_succ])
            refine wpAnyM_take 7 (v := ?_) rfl (by kernel_rfl) (fun _ _ _ h => h) (Or.inl ⟨by rfl, ?_⟩) (by assumption) ?_
            rotate_left
            · (intro wx hSw; (try dsimp only at hSw); go_simp; (try with_reducible rfl))
            (try simp only [Act.put, List.setIfInBounds_toArray, List.set_cons_zero, List.set_cons_succ])
            refine wpAnyM_take 8 (v := ?_) rfl (by kernel_rfl) (fun _ _ _ h => h) (Or.inl ⟨by rfl, ?_⟩) (by assumption) ?_
            rotate_left
            · (intro wx hSw; (try dsimp only at hSw); go_simp; (try with_reducible rfl))
            (try simp only [Act.put, List.setIfInBounds_toArray, List.set_cons_zero, List.set_cons_succ])
            refine wpAnyM_take 9 (v := ?_) rfl (by kernel_rfl) (fun _ _ _ h => h) (Or.inl ⟨by rfl, ?_⟩) (by assumption) ?_
            rotate_left
            · (intro wx hSw; (try dsimp only at hSw); go_simp; (try with_reducible rfl))
            (try simp only [Act.put, List.setIfInBounds_toArray, List.set_cons_zero, List.set_cons_succ])
            refine wpAnyM_take 10 (v := ?_) rfl (by kernel_rfl) (fun _ _ _ h => h) (Or.inl ⟨by rfl, ?_⟩) (by assumption) ?_
            rotate_left
            · (intro wx hSw; (try dsimp only at hSw); go_simp; (try with_reducible rfl))
            (try simp only [Act.put, List.setIfInBounds_toArray, List.set_cons_zero, List.set_cons_succ])
            refine wpAnyM_oneS 12 rfl (by kernel_rfl) (fun K hK => ?_)
            go_simp; have HR := Lib.hid (on_row HS.out _ (by first | (simp; rfl) | rfl)); have HS2 := Lib.hid (HS.out.alloc (.cells #[.int .i64 0, .int .i64 0, .int .i64 0, .int .i64 0, .int .i64 0, .int .i64 0, .int .i64 0, .int .i64 0, .int .i64 0, .int .i64 0, .int .i64 0, .int .i64 0, .int .i64 0, .int .i64 0, .int .i64 0, .int .i64 0, .int .i64 0, .int .i64 0, .int .i64 0, .int .i64 0, .int .i64 0, .int .i64 0, .int .i64 0, .int .i64 0] 31)); clear HS; have HS := HS2; clear HS2; (try (have HA2 := Lib.hid (And.intro (HA.out.1.alloc (.cells #[.int .i64 0, .int .i64 0, .int .i64 0, .int .i64 0, .int .i64 0, .int .i64 0, .int .i64 0, .int .i64 0, .int .i64 0, .int .i64 0, .int .i64 0, .int .i64 0, .int .i64 0, .int .i64 0, .int .i64 0, .int .i64 0, .int .i64 0, .int .i64 0, .int .i64 0, .int .i64 0, .int .i64 0, .int .i64 0, .int .i64 0, .int .i64 0] 31)) HA.out.2); clear HA; have HA := HA2; clear HA2)); (try (have HL2 := Lib.hid (HL.out.below (Below.alloc (Below.refl _ _) (Nat.le_refl _) (.cells #[.int .i64 0, .int .i64 0, .int .i64 0, .int .i64 0, .int .i64 0, .int .i64 0, .int .i64 0, .int .i64 0, .int .i64 0, .int .i64 0, .int .i64 0, .int .i64 0, .int .i64 0, .int .i64 0, .int .i64 0, .int .i64 0, .int .i64 0, .int .i64 0, .int .i64 0, .int .i64 0, .int .i64 0, .int .i64 0, .int .i64 0, .int .i64 0] 31))); clear HL; have HL := HL2; clear HL2))
            clear hHeld
            refine hK.out _ _ ?_ (fun hHeld => ?_)
            · exact HS.out.pB
            clear hK K
            (try simp only [Act.put, List.setIfInBounds_toArray, List.set_cons_zero, List.set_cons_succ])
            have HE := Lib.hid (on_end (F := Fq) (G := Gq) HS.out hbw hb4 HA.out HR.out); have HS2 := Lib.hid (HS.out.row (F := Fq) hbw hb4 HA.out); clear HS; have HS := HS2; clear HS2
            clear hHeld
            refine wpAnyM_doneS 13 rfl (by kernel_rfl) (by rfl) (run_store_row 29 (.tmp 9) (.tmp 55) rfl _ rfl rfl HA.out.1 icov) ?_ (fun hHeld => ?_)
            · exact HS.out.pB
            (try simp only [Act.put])
            have HS2 := Lib.hid HE.out.2.2.2; clear HS; have HS := HS2; clear HS2
            clear hHeld
            refine wpAnyM_doneS 14 rfl (by kernel_rfl) (by rfl) (run_store_row 31 (.tmp 10) (.tmp 56) rfl _ rfl rfl HE.out.1 irow) ?_ (fun hHeld => ?_)
            · exact HS.out.pB
            (try simp only [Act.put])
            refine wpAnyM_one 15 rfl (by kernel_rfl) (fun K hK => ?_)
            go_simp
            refine hK.out _ _ (.inl (by kernel_rfl)) (fun _ => ?_)
            clear hK K
            (try simp only [Act.put, List.setIfInBounds_toArray, List.set_cons_zero, List.set_cons_succ])
            refine wpAnyM_done (by kernel_rfl) ?_ _
            (go_wp2_with fail; go_meet; exact ⟨_, _, rfl, rfl, rfl, Lib.hid HE.out.2⟩)
          · go_simp; have HR := Lib.hid (on_row HS.out _ (by first | (simp; rfl) | rfl)); have HS2 := Lib.hid (HS.out.alloc (.cells #[.int .i64 0, .int .i64 0, .int .i64 0, .int .i64 0, .int .i64 0, .int .i64 0, .int .i64 0, .int .i64 0, .int .i64 0, .int .i64 0, .int .i64 0, .int .i64 0, .int .i64 0, .int .i64 0, .int .i64 0, .int .i64 0, .int .i64 0, .int .i64 0, .int .i64 0, .int .i64 0, .int .i64 0, .int .i64 0, .int .i64 0, .int .i64 0] 31)); clear HS; have HS := HS2; clear HS2; (try (have HA2 := Lib.hid (And.intro (HA.out.1.alloc (.cells #[.int .i64 0, .int .i64 0, .int .i64 0, .int .i64 0, .int .i64 0, .int .i64 0, .int .i64 0, .int .i64 0, .int .i64 0, .int .i64 0, .int .i64 0, .int .i64 0, .int .i64 0, .int .i64 0, .int .i64 0, .int .i64 0, .int .i64 0, .int .i64 0, .int .i64 0, .int .i64 0, .int .i64 0, .int .i64 0, .int .i64 0, .int .i64 0] 31)) HA.out.2); clear HA; have HA := HA2; clear HA2)); (try (have HL2 := Lib.hid (HL.out.below (Below.alloc (Below.refl _ _) (Nat.le_refl _) (.cells #[.int .i64 0, .int .i64 0, .int .i64 0, .int .i64 0, .int .i64 0, .int .i64 0, .int .i64 0, .int .i64 0, .int .i64 0, .int .i64 0, .int .i64 0, .int .i64 0, .int .i64 0, .int .i64 0, .int .i64 0, .int .i64 0, .int .i64 0, .int .i64 0, .int .i64 0, .int .i64 0, .int .i64 0, .int .i64 0, .int .i64 0, .int .i64 0] 31))); clear HL; have HL := HL2; clear HL2))
            clear hHeld
            refine hK.out _ _ ?_ (fun hHeld => ?_)
            · exact HS.out.pB
            clear hK K
            (try simp only [Act.put, List.setIfInBounds_toArray, List.set_cons_zero, List.set_cons_succ])
            refine wpAnyM_oneS 6 rfl (by kernel_rfl) (fun K hK => ?_)
            go_simp
            (refine (U5.out _ HS.out.fl.cell HS.out.fl.free).mono ?_); rintro e w7 ⟨rfl, hu7⟩; have HS2 := Lib.hid (HS.out.upd hbw hb4 hu7); clear HS; have HS := HS2; clear HS2; (try (have HA2 := Lib.hid (And.intro (HA.out.1.upd hu7 (by have := HA.out.2; simp; omega)) HA.out.2); clear HA; have HA := HA2; clear HA2)); (try (have HR2 := Lib.hid (And.intro (HR.out.1.upd hu7 (by have := HR.out.2; simp; omega)) HR.out.2); clear HR; have HR := HR2; clear HR2)); clear hu7
            (try dsimp only)
            (try simp only [Act.put, List.setIfInBounds_toArray, List.set_cons_zero, List.set_cons_succ])
            clear hHeld
            refine hK.out _ _ ?_ (fun hHeld => ?_)
            · exact HS.out.pB
            clear hK K
            (try simp only [Act.put, List.setIfInBounds_toArray, List.set_cons_zero, List.set_cons_succ])
            refine wpAnyM_take 7 (v := ?_) rfl (by kernel_rfl) (fun _ _ _ h => h) (Or.inl ⟨by rfl, ?_⟩) (by assumption) ?_
            rotate_left
            · (intro wx hSw; (try dsimp only at hSw); go_simp; (try with_reducible rfl))
            (try simp only [Act.put, List.setIfInBounds_toArray, List.set_cons_zero, List.set_cons_succ])
            refine wpAnyM_take 8 (v := ?_) rfl (by kernel_rfl) (fun _ _ _ h => h) (Or.inl ⟨by rfl, ?_⟩) (by assumption) ?_
            rotate_left
            · (intro wx hSw; (try dsimp only at hSw); go_simp; (try with_reducible rfl))
            (try simp only [Act.put, List.setIfInBounds_toArray, List.set_cons_zero, List.set_cons_succ])
            refine wpAnyM_take 9 (v := ?_) rfl (by kernel_rfl) (fun _ _ _ h => h) (Or.inl ⟨by rfl, ?_⟩) (by assumption) ?_
            rotate_left
            · (intro wx hSw; (try dsimp only at hSw); go_simp; (try with_reducible rfl))
            (try simp only [Act.put, List.setIfInBounds_toArray, List.set_cons_zero, List.set_cons_succ])
            refine wpAnyM_take 10 (v := ?_) rfl (by kernel_rfl) (fun _ _ _ h => h) (Or.inl ⟨by rfl, ?_⟩) (by assumption) ?_
            rotate_left
            · (intro wx hSw; (try dsimp only at hSw); go_simp; (try with_reducible rfl))
            (try simp only [Act.put, List.setIfInBounds_toArray, List.set_cons_zero, List.set_cons_succ])
            have HE := Lib.hid (on_end (F := Fq) (G := Gq) HS.out hbw hb4 HA.out HR.out); have HS2 := Lib.hid (HS.out.row (F := Fq) hbw hb4 HA.out); clear HS; have HS := HS2; clear HS2
            clear hHeld
            refine wpAnyM_doneS 13 rfl (by kernel_rfl) (by rfl) (run_store_row 29 (.tmp 9) (.tmp 55) rfl _ rfl rfl HA.out.1 icov) ?_ (fun hHeld => ?_)
            · exact HS.out.pB
            (try simp only [Act.put])
            have HS2 := Lib.hid HE.out.2.2.2; clear HS; have HS := HS2; clear HS2
            clear hHeld
            refine wpAnyM_doneS 14 rfl (by kernel_rfl) (by rfl) (run_store_row 31 (.tmp 10) (.tmp 56) rfl _ rfl rfl HE.out.1 irow) ?_ (fun hHeld => ?_)
            · exact HS.out.pB
            (try simp only [Act.put])
            refine wpAnyM_one 15 rfl (by kernel_rfl) (fun K hK => ?_)
            go_simp
            refine hK.out _ _ (.inl (by kernel_rfl)) (fun _ => ?_)
            clear hK K
            (try simp only [Act.put, List.setIfInBounds_toArray, List.set_cons_zero, List.set_cons_succ])
            refine wpAnyM_done (by kernel_rfl) ?_ _
            (go_wp2_with fail; go_meet; exact ⟨_, _, rfl, rfl, rfl, Lib.hid HE.out.2⟩)
        · go_simp; have HR := Lib.hid (on_row HS.out _ (by first | (simp; rfl) | rfl)); have HS2 := Lib.hid (HS.out.alloc (.cells #[.int .i64 0, .int .i64 0, .int .i64 0, .int .i64 0, .int .i64 0, .int .i64 0, .int .i64 0, .int .i64 0, .int .i64 0, .int .i64 0, .int .i64 0, .int .i64 0, .int .i64 0, .int .i64 0, .int .i64 0, .int .i64 0, .int .i64 0, .int .i64 0, .int .i64 0, .int .i64 0, .int .i64 0, .int .i64 0, .int .i64 0, .int .i64 0] 31)); clear HS; have HS := HS2; clear HS2; (try (have HA2 := Lib.hid (And.intro (HA.out.1.alloc (.cells #[.int .i64 0, .int .i64 0, .int .i64 0, .int .i64 0, .int .i64 0, .int .i64 0, .int .i64 0, .int .i64 0, .int .i64 0, .int .i64 0, .int .i64 0, .int .i64 0, .int .i64 0, .int .i64 0, .int .i64 0, .int .i64 0, .int .i64 0, .int .i64 0, .int .i64 0, .int .i64 0, .int .i64 0, .int .i64 0, .int .i64 0, .int .i64 0] 31)) HA.out.2); clear HA; have HA := HA2; clear HA2)); (try (have HL2 := Lib.hid (HL.out.below (Below.alloc (Below.refl _ _) (Nat.le_refl _) (.cells #[.int .i64 0, .int .i64 0, .int .i64 0, .int .i64 0, .int .i64 0, .int .i64 0, .int .i64 0, .int .i64 0, .int .i64 0, .int .i64 0, .int .i64 0, .int .i64 0, .int .i64 0, .int .i64 0, .int .i64 0, .int .i64 0, .int .i64 0, .int .i64 0, .int .i64 0, .int .i64 0, .int .i64 0, .int .i64 0, .int .i64 0, .int .i64 0] 31))); clear HL; have HL := HL2; clear HL2))
          clear hHeld
          refine hK.out _ _ ?_ (fun hHeld => ?_)
          · exact HS.out.pB
          clear hK K
          (try simp only [Act.put, List.setIfInBounds_toArray, List.set_cons_zero, List.set_cons_succ])
          refine wpAnyM_oneS 4 rfl (by kernel_rfl) (fun K hK => ?_)
          go_simp
          (refine (pick_any _ 1 _ (fun _ => (k : Int)) _ HL.out (by omega)).mono ?_); rintro e w6 ⟨rfl, hb6⟩; (rw [EN.out]); have HS2 := Lib.hid (HS.out.down hb6); clear HS; have HS := HS2; clear HS2 HL; (try (have HA2 := Lib.hid (And.intro (HA.out.1.below hb6) HA.out.2); clear HA; have HA := HA2; clear HA2)); (try (have HR2 := Lib.hid (And.intro (HR.out.1.below hb6) HR.out.2); clear HR; have HR := HR2; clear HR2)); clear hb6
          (try dsimp only)
          (try simp only [Act.put, List.setIfInBounds_toArray, List.set_cons_zero, List.set_cons_succ])
          clear hHeld
          refine hK.out _ _ ?_ (fun hHeld => ?_)
          · exact HS.out.pB
          clear hK K
          (try simp only [Act.put, List.setIfInBounds_toArray, List.set_cons_zero, List.set_cons_succ])
          refine wpAnyM_oneS 6 rfl (by kernel_rfl) (fun K hK => ?_)
          go_simp
          (refine (U5.out _ HS.out.fl.cell HS.out.fl.free).mono ?_); rintro e w7 ⟨rfl, hu7⟩; have HS2 := Lib.hid (HS.out.upd hbw hb4 hu7); clear HS; have HS := HS2; clear HS2; (try (have HA2 := Lib.hid (And.intro (HA.out.1.upd hu7 (by have := HA.out.2; simp; omega)) HA.out.2); clear HA; have HA := HA2; clear HA2)); (try (have HR2 := Lib.hid (And.intro (HR.out.1.upd hu7 (by have := HR.out.2; simp; omega)) HR.out.2); clear HR; have HR := HR2; clear HR2)); clear hu7
          (try dsimp only)
          (try simp only [Act.put, List.setIfInBounds_toArray, List.set_cons_zero, List.set_cons_succ])
          clear hHeld
          refine hK.out _ _ ?_ (fun hHeld => ?_)
          · exact HS.out.pB
          clear hK K
          (try simp only [Act.put, List.setIfInBounds_toArray, List.set_cons_zero, List.set_cons_succ])
          refine wpAnyM_take 7 (v := ?_) rfl (by kernel_rfl) (fun _ _ _ h => h) (Or.inl ⟨by rfl, ?_⟩) (by assumption) ?_
          rotate_left
          · (intro wx hSw; (try dsimp only at hSw); go_simp; (try with_reducible rfl))
          (try simp only [Act.put, List.setIfInBounds_toArray, List.set_cons_zero, List.set_cons_succ])
          refine wpAnyM_take 8 (v := ?_) rfl (by kernel_rfl) (fun _ _ _ h => h) (Or.inl ⟨by rfl, ?_⟩) (by assumption) ?_
          rotate_left
          · (intro wx hSw; (try dsimp only at hSw); go_simp; (try with_reducible rfl))
          (try simp only [Act.put, List.setIfInBounds_toArray, List.set_cons_zero, List.set_cons_succ])
          refine wpAnyM_take 9 (v := ?_) rfl (by kernel_rfl) (fun _ _ _ h => h) (Or.inl ⟨by rfl, ?_⟩) (by assumption) ?_
          rotate_left
          · (intro wx hSw; (try dsimp only at hSw); go_simp; (try with_reducible rfl))
          (try simp only [Act.put, List.setIfInBounds_toArray, List.set_cons_zero, List.set_cons_succ])
          refine wpAnyM_take 10 (v := ?_) rfl (by kernel_rfl) (fun _ _ _ h => h) (Or.inl ⟨by rfl, ?_⟩) (by assumption) ?_
          rotate_left
          · (intro wx hSw; (try dsimp only at hSw); go_simp; (try with_reducible rfl))
          (try simp only [Act.put, List.setIfInBounds_toArray, List.set_cons_zero, List.set_cons_succ])
          have HE := Lib.hid (on_end (F := Fq) (G := Gq) HS.out hbw hb4 HA.out HR.out); have HS2 := Lib.hid (HS.out.row (F := Fq) hbw hb4 HA.out); clear HS; have HS := HS2; clear HS2
          clear hHeld
          refine wpAnyM_doneS 13 rfl (by kernel_rfl) (by rfl) (run_store_row 29 (.tmp 9) (.tmp 55) rfl _ rfl rfl HA.out.1 icov) ?_ (fun hHeld => ?_)
          · exact HS.out.pB
          (try simp only [Act.put])
          have HS2 := Lib.hid HE.out.2.2.2; clear HS; have HS := HS2; clear HS2
          clear hHeld
          refine wpAnyM_doneS 14 rfl (by kernel_rfl) (by rfl) (run_store_row 31 (.tmp 10) (.tmp 56) rfl _ rfl rfl HE.out.1 irow) ?_ (fun hHeld => ?_)
          · exact HS.out.pB
          (try simp only [Act.put])
          refine wpAnyM_one 15 rfl (by kernel_rfl) (fun K hK => ?_)
          go_simp
          refine hK.out _ _ (.inl (by kernel_rfl)) (fun _ => ?_)
          clear hK K
          (try simp only [Act.put, List.setIfInBounds_toArray, List.set_cons_zero, List.set_cons_succ])
          refine wpAnyM_done (by kernel_rfl) ?_ _
          (go_wp2_with fail; go_meet; exact ⟨_, _, rfl, rfl, rfl, Lib.hid HE.out.2⟩)
      · go_simp; have HR := Lib.hid (on_row HS.out _ (by first | (simp; rfl) | rfl)); have HS2 := Lib.hid (HS.out.alloc (.cells #[.int .i64 0, .int .i64 0, .int .i64 0, .int .i64 0, .int .i64 0, .int .i64 0, .int .i64 0, .int .i64 0, .int .i64 0, .int .i64 0, .int .i64 0, .int .i64 0, .int .i64 0, .int .i64 0, .int .i64 0, .int .i64 0, .int .i64 0, .int .i64 0, .int .i64 0, .int .i64 0, .int .i64 0, .int .i64 0, .int .i64 0, .int .i64 0] 31)); clear HS; have HS := HS2; clear HS2; (try (have HA2 := Lib.hid (And.intro (HA.out.1.alloc (.cells #[.int .i64 0, .int .i64 0, .int .i64 0, .int .i64 0, .int .i64 0, .int .i64 0, .int .i64 0, .int .i64 0, .int .i64 0, .int .i64 0, .int .i64 0, .int .i64 0, .int .i64 0, .int .i64 0, .int .i64 0, .int .i64 0, .int .i64 0, .int .i64 0, .int .i64 0, .int .i64 0, .int .i64 0, .int .i64 0, .int .i64 0, .int .i64 0] 31)) HA.out.2); clear HA; have HA := HA2; clear HA2)); (try (have HL2 := Lib.hid (HL.out.below (Below.alloc (Below.refl _ _) (Nat.le_refl _) (.cells #[.int .i64 0, .int .i64 0, .int .i64 0, .int .i64 0, .int .i64 0, .int .i64 0, .int .i64 0, .int .i64 0, .int .i64 0, .int .i64 0, .int .i64 0, .int .i64 0, .int .i64 0, .int .i64 0, .int .i64 0, .int .i64 0, .int .i64 0, .int .i64 0, .int .i64 0, .int .i64 0, .int .i64 0, .int .i64 0, .int .i64 0, .int .i64 0] 31))); clear HL; have HL := HL2; clear HL2))
        clear hHeld
        refine hK.out _ _ ?_ (fun hHeld => ?_)
        · exact HS.out.pB
        clear hK K
        (try simp only [Act.put, List.setIfInBounds_toArray, List.set_cons_zero, List.set_cons_succ])
        refine wpAnyM_twoS 4 11 rfl rfl (by kernel_rfl) (fun K hK => ?_) (fun K hK => ?_)
        · go_simp
          (refine (pick_any _ 1 _ (fun _ => (k : Int)) _ HL.out (by omega)).mono ?_); rintro e w6 ⟨rfl, hb6⟩; (rw [EN.out]); have HS2 := Lib.hid (HS.out.down hb6); clear HS; have HS := HS2; clear HS2 HL; (try (have HA2 := Lib.hid (And.intro (HA.out.1.below hb6) HA.out.2); clear HA; have HA := HA2; clear HA2)); (try (have HR2 := Lib.hid (And.intro (HR.out.1.below hb6) HR.out.2); clear HR; have HR := HR2; clear HR2)); clear hb6
          (try dsimp only)
          (try simp only [Act.put, List.setIfInBounds_toArray, List.set_cons_zero, List.set_cons_succ])
          clear hHeld
          refine hK.out _ _ ?_ (fun hHeld => ?_)
          · exact HS.out.pB
          clear hK K
          (try simp only [Act.put, List.setIfInBounds_toArray, List.set_cons_zero, List.set_cons_succ])
          refine wpAnyM_twoS 6 11 rfl rfl (by kernel_rfl) (fun K hK => ?_) (fun K hK => ?_)
          · go_simp
            (refine (U5.out _ HS.out.fl.cell HS.out.fl.free).mono ?_); rintro e w7 ⟨rfl, hu7⟩; have HS2 := Lib.hid (HS.out.upd hbw hb4 hu7); clear HS; have HS := HS2; clear HS2; (try (have HA2 := Lib.hid (And.intro (HA.out.1.upd hu7 (by have := HA.out.2; simp; omega)) HA.out.2); clear HA; have HA := HA2; clear HA2)); (try (have HR2 := Lib.hid (And.intro (HR.out.1.upd hu7 (by have := HR.out.2; simp; omega)) HR.out.2); clear HR; have HR := HR2; clear HR2)); clear hu7
            (try dsimp only)
            (try simp only [Act.put, List.setIfInBounds_toArray, List.set_cons_zero, List.set_cons_succ])
            clear hHeld
            refine hK.out _ _ ?_ (fun hHeld => ?_)
            · exact HS.out.pB
            clear hK K
            (try simp only [Act.put, List.setIfInBounds_toArray, List.set_cons_zero, List.set_cons_succ])
            refine wpAnyM_take 7 (v := ?_) rfl (by kernel_rfl) (fun _ _ _ h => h) (Or.inl ⟨by rfl, ?_⟩) (by assumption) ?_
            rotate_left
            · (intro wx hSw; (try dsimp only at hSw); go_simp; (try with_reducible rfl))
            (try simp only [Act.put, List.setIfInBounds_toArray, List.set_cons_zero, List.set_cons_succ])
            refine wpAnyM_take 8 (v := ?_) rfl (by kernel_rfl) (fun _ _ _ h => h) (Or.inl ⟨by rfl, ?_⟩) (by assumption) ?_
            rotate_left
            · (intro wx hSw; (try dsimp only at hSw); go_simp; (try with_reducible rfl))
            (try simp only [Act.put, List.setIfInBounds_toArray, List.set_cons_zero, List.set_cons_succ])
            refine wpAnyM_take 9 (v := ?_) rfl (by kernel_rfl) (fun _ _ _ h => h) (Or.inl ⟨by rfl, ?_⟩) (by assumption) ?_
            rotate_left
            · (intro wx hSw; (try dsimp only at hSw); go_simp; (try with_reducible rfl))
            (try simp only [Act.put, List.setIfInBounds_toArray, List.set_cons_zero, List.set_cons_succ])
            refine wpAnyM_take 10 (v := ?_) rfl (by kernel_rfl) (fun _ _ _ h => h) (Or.inl ⟨by rfl, ?_⟩) (by assumption) ?_
            rotate_left
            · (intro wx hSw; (try dsimp only at hSw); go_simp; (try with_reducible rfl))
            (try simp only [Act.put, List.setIfInBounds_toArray, List.set_cons_zero, List.set_cons_succ])
            refine wpAnyM_oneS 11 rfl (by kernel_rfl) (fun K hK => ?_)
            go_simp; have HA := Lib.hid (on_cov HS.out _ (by first | (simp; rfl) | rfl)); have HS2 := Lib.hid (HS.out.alloc (.cells Try.zeroCells29 29)); clear HS; have HS := HS2; clear HS2; (try (have HR2 := Lib.hid (And.intro (HR.out.1.alloc (.cells Try.zeroCells29 29)) HR.out.2); clear HR; have HR := HR2; clear HR2)); (try (have HL2 := Lib.hid (HL.out.below (Below.alloc (Below.refl _ _) (Nat.le_refl _) (.cells Try.zeroCells29 29))); clear HL; have HL := HL2; clear HL2))
            clear hHeld
            refine hK.out _ _ ?_ (fun hHeld => ?_)
            · exact HS.out.pB
            clear hK K
            (try simp only [Act.put, List.setIfInBounds_toArray, List.set_cons_zero, List.set_cons_succ])
            have HE := Lib.hid (on_end (F := Fq) (G := Gq) HS.out hbw hb4 HA.out HR.out); have HS2 := Lib.hid (HS.out.row (F := Fq) hbw hb4 HA.out); clear HS; have HS := HS2; clear HS2
            clear hHeld
            refine wpAnyM_doneS 13 rfl (by kernel_rfl) (by rfl) (run_store_row 29 (.tmp 9) (.tmp 55) rfl _ rfl rfl HA.out.1 icov) ?_ (fun hHeld => ?_)
            · exact HS.out.pB
            (try simp only [Act.put])
            have HS2 := Lib.hid HE.out.2.2.2; clear HS; have HS := HS2; clear HS2
            clear hHeld
            refine wpAnyM_doneS 14 rfl (by kernel_rfl) (by rfl) (run_store_row 31 (.tmp 10) (.tmp 56) rfl _ rfl rfl HE.out.1 irow) ?_ (fun hHeld => ?_)
            · exact HS.out.pB
            (try simp only [Act.put])
            refine wpAnyM_one 15 rfl (by kernel_rfl) (fun K hK => ?_)
            go_simp
            refine hK.out _ _ (.inl (by kernel_rfl)) (fun _ => ?_)
            clear hK K
            (try simp only [Act.put, List.setIfInBounds_toArray, List.set_cons_zero, List.set_cons_succ])
            refine wpAnyM_done (by kernel_rfl) ?_ _
            (go_wp2_with fail; go_meet; exact ⟨_, _, rfl, rfl, rfl, Lib.hid HE.out.2⟩)
          · go_simp; have HA := Lib.hid (on_cov HS.out _ (by first | (simp; rfl) | rfl)); have HS2 := Lib.hid (HS.out.alloc (.cells Try.zeroCells29 29)); clear HS; have HS := HS2; clear HS2; (try (have HR2 := Lib.hid (And.intro (HR.out.1.alloc (.cells Try.zeroCells29 29)) HR.out.2); clear HR; have HR := HR2; clear HR2)); (try (have HL2 := Lib.hid (HL.out.below (Below.alloc (Below.refl _ _) (Nat.le_refl _) (.cells Try.zeroCells29 29))); clear HL; have HL := HL2; clear HL2))
            clear hHeld
            refine hK.out _ _ ?_ (fun hHeld => ?_)
            · exact HS.out.pB
            clear hK K
            (try simp only [Act.put, List.setIfInBounds_toArray, List.set_cons_zero, List.set_cons_succ])
            refine wpAnyM_oneS 6 rfl (by kernel_rfl) (fun K hK => ?_)
            go_simp
            (refine (U5.out _ HS.out.fl.cell HS.out.fl.free).mono ?_); rintro e w7 ⟨rfl, hu7⟩; have HS2 := Lib.hid (HS.out.upd hbw hb4 hu7); clear HS; have HS := HS2; clear HS2; (try (have HA2 := Lib.hid (And.intro (HA.out.1.upd hu7 (by have := HA.out.2; simp; omega)) HA.out.2); clear HA; have HA := HA2; clear HA2)); (try (have HR2 := Lib.hid (And.intro (HR.out.1.upd hu7 (by have := HR.out.2; simp; omega)) HR.out.2); clear HR; have HR := HR2; clear HR2)); clear hu7
            (try dsimp only)
            (try simp only [Act.put, List.setIfInBounds_toArray, List.set_cons_zero, List.set_cons_succ])
            clear hHeld
            refine hK.out _ _ ?_ (fun hHeld => ?_)
            · exact HS.out.pB
            clear hK K
            (try simp only [Act.put, List.setIfInBounds_toArray, List.set_cons_zero, List.set_cons_succ])
            refine wpAnyM_take 7 (v := ?_) rfl (by kernel_rfl) (fun _ _ _ h => h) (Or.inl ⟨by rfl, ?_⟩) (by assumption) ?_
            rotate_left
            · (intro wx hSw; (try dsimp only at hSw); go_simp; (try with_reducible rfl))
            (try simp only [Act.put, List.setIfInBounds_toArray, List.set_cons_zero, List.set_cons_succ])
            refine wpAnyM_take 8 (v := ?_) rfl (by kernel_rfl) (fun _ _ _ h => h) (Or.inl ⟨by rfl, ?_⟩) (by assumption) ?_
            rotate_left
            · (intro wx hSw; (try dsimp only at hSw); go_simp; (try with_reducible rfl))
            (try simp only [Act.put, List.setIfInBounds_toArray, List.set_cons_zero, List.set_cons_succ])
            refine wpAnyM_take 9 (v := ?_) rfl (by kernel_rfl) (fun _ _ _ h => h) (Or.inl ⟨by rfl, ?_⟩) (by assumption) ?_
            rotate_left
            · (intro wx hSw; (try dsimp only at hSw); go_simp; (try with_reducible rfl))
            (try simp only [Act.put, List.setIfInBounds_toArray, List.set_cons_zero, List.set_cons_succ])
            refine wpAnyM_take 10 (v := ?_) rfl (by kernel_rfl) (fun _ _ _ h => h) (Or.inl ⟨by rfl, ?_⟩) (by assumption) ?_
            rotate_left
            · (intro wx hSw; (try dsimp only at hSw); go_simp; (try with_reducible rfl))
            (try simp only [Act.put, List.setIfInBounds_toArray, List.set_cons_zero, List.set_cons_succ])
            have HE := Lib.hid (on_end (F := Fq) (G := Gq) HS.out hbw hb4 HA.out HR.out); have HS2 := Lib.hid (HS.out.row (F := Fq) hbw hb4 HA.out); clear HS; have HS := HS2; clear HS2
            clear hHeld
            refine wpAnyM_doneS 13 rfl (by kernel_rfl) (by rfl) (run_store_row 29 (.tmp 9) (.tmp 55) rfl _ rfl rfl HA.out.1 icov) ?_ (fun hHeld => ?_)
            · exact HS.out.pB
            (try simp only [Act.put])
            have HS2 := Lib.hid HE.out.2.2.2; clear HS; have HS := HS2; clear HS2
            clear hHeld
            refine wpAnyM_doneS 14 rfl (by kernel_rfl) (by rfl) (run_store_row 31 (.tmp 10) (.tmp 56) rfl _ rfl rfl HE.out.1 irow) ?_ (fun hHeld => ?_)
            · exact HS.out.pB
            (try simp only [Act.put])
            refine wpAnyM_one 15 rfl (by kernel_rfl) (fun K hK => ?_)
            go_simp
            refine hK.out _ _ (.inl (by kernel_rfl)) (fun _ => ?_)
            clear hK K
            (try simp only [Act.put, List.setIfInBounds_toArray, List.set_cons_zero, List.set_cons_succ])
            refine wpAnyM_done (by kernel_rfl) ?_ _
            (go_wp2_with fail; go_meet; exact ⟨_, _, rfl, rfl, rfl, Lib.hid HE.out.2⟩)
        · go_simp; have HA := Lib.hid (on_cov HS.out _ (by first | (simp; rfl) | rfl)); have HS2 := Lib.hid (HS.out.alloc (.cells Try.zeroCells29 29)); clear HS; have HS := HS2; clear HS2; (try (have HR2 := Lib.hid (And.intro (HR.out.1.alloc (.cells Try.zeroCells29 29)) HR.out.2); clear HR; have HR := HR2; clear HR2)); (try (have HL2 := Lib.hid (HL.out.below (Below.alloc (Below.refl _ _) (Nat.le_refl _) (.cells Try.zeroCells29 29))); clear HL; have HL := HL2; clear HL2))
          clear hHeld
          refine hK.out _ _ ?_ (fun hHeld => ?_)
          · exact HS.out.pB
          clear hK K
          (try simp only [Act.put, List.setIfInBounds_toArray, List.set_cons_zero, List.set_cons_succ])
          refine wpAnyM_oneS 4 rfl (by kernel_rfl) (fun K hK => ?_)
          go_simp
          (refine (pick_any _ 1 _ (fun _ => (k : Int)) _ HL.out (by omega)).mono ?_); rintro e w6 ⟨rfl, hb6⟩; (rw [EN.out]); have HS2 := Lib.hid (HS.out.down hb6); clear HS; have HS := HS2; clear HS2 HL; (try (have HA2 := Lib.hid (And.intro (HA.out.1.below hb6) HA.out.2); clear HA; have HA := HA2; clear HA2)); (try (have HR2 := Lib.hid (And.intro (HR.out.1.below hb6) HR.out.2); clear HR; have HR := HR2; clear HR2)); clear hb6
          (try dsimp only)
          (try simp only [Act.put, List.setIfInBounds_toArray, List.set_cons_zero, List.set_cons_succ])
          clear hHeld
          refine hK.out _ _ ?_ (fun hHeld => ?_)
          · exact HS.out.pB
          clear hK K
          (try simp only [Act.put, List.setIfInBounds_toArray, List.set_cons_zero, List.set_cons_succ])
          refine wpAnyM_oneS 6 rfl (by kernel_rfl) (fun K hK => ?_)
          go_simp
          (refine (U5.out _ HS.out.fl.cell HS.out.fl.free).mono ?_); rintro e w7 ⟨rfl, hu7⟩; have HS2 := Lib.hid (HS.out.upd hbw hb4 hu7); clear HS; have HS := HS2; clear HS2; (try (have HA2 := Lib.hid (And.intro (HA.out.1.upd hu7 (by have := HA.out.2; simp; omega)) HA.out.2); clear HA; have HA := HA2; clear HA2)); (try (have HR2 := Lib.hid (And.intro (HR.out.1.upd hu7 (by have := HR.out.2; simp; omega)) HR.out.2); clear HR; have HR := HR2; clear HR2)); clear hu7
          (try dsimp only)
          (try simp only [Act.put, List.setIfInBounds_toArray, List.set_cons_zero, List.set_cons_succ])
          clear hHeld
          refine hK.out _ _ ?_ (fun hHeld => ?_)
          · exact HS.out.pB
          clear hK K
          (try simp only [Act.put, List.setIfInBounds_toArray, List.set_cons_zero, List.set_cons_succ])
          refine wpAnyM_take 7 (v := ?_) rfl (by kernel_rfl) (fun _ _ _ h => h) (Or.inl ⟨by rfl, ?_⟩) (by assumption) ?_
          rotate_left
          · (intro wx hSw; (try dsimp only at hSw); go_simp; (try with_reducible rfl))
          (try simp only [Act.put, List.setIfInBounds_toArray, List.set_cons_zero, List.set_cons_succ])
          refine wpAnyM_take 8 (v := ?_) rfl (by kernel_rfl) (fun _ _ _ h => h) (Or.inl ⟨by rfl, ?_⟩) (by assumption) ?_
          rotate_left
          · (intro wx hSw; (try dsimp only at hSw); go_simp; (try with_reducible rfl))
          (try simp only [Act.put, List.setIfInBounds_toArray, List.set_cons_zero, List.set_cons_succ])
          refine wpAnyM_take 9 (v := ?_) rfl (by kernel_rfl) (fun _ _ _ h => h) (Or.inl ⟨by rfl, ?_⟩) (by assumption) ?_
          rotate_left
          · (intro wx hSw; (try dsimp only at hSw); go_simp; (try with_reducible rfl))
          (try simp only [Act.put, List.setIfInBounds_toArray, List.set_cons_zero, List.set_cons_succ])
          refine wpAnyM_take 10 (v := ?_) rfl (by kernel_rfl) (fun _ _ _ h => h) (Or.inl ⟨by rfl, ?_⟩) (by assumption) ?_
          rotate_left
          · (intro wx hSw; (try dsimp only at hSw); go_simp; (try with_reducible rfl))
          (try simp only [Act.put, List.setIfInBounds_toArray, List.set_cons_zero, List.set_cons_succ])
          have HE := Lib.hid (on_end (F := Fq) (G := Gq) HS.out hbw hb4 HA.out HR.out); have HS2 := Lib.hid (HS.out.row (F := Fq) hbw hb4 HA.out); clear HS; have HS := HS2; clear HS2
          clear hHeld
          refine wpAnyM_doneS 13 rfl (by kernel_rfl) (by rfl) (run_store_row 29 (.tmp 9) (.tmp 55) rfl _ rfl rfl HA.out.1 icov) ?_ (fun hHeld => ?_)
          · exact HS.out.pB
          (try simp only [Act.put])
          have HS2 := Lib.hid HE.out.2.2.2; clear HS; have HS := HS2; clear HS2
          clear hHeld
          refine wpAnyM_doneS 14 rfl (by kernel_rfl) (by rfl) (run_store_row 31 (.tmp 10) (.tmp 56) rfl _ rfl rfl HE.out.1 irow) ?_ (fun hHeld => ?_)
          · exact HS.out.pB
          (try simp only [Act.put])
          refine wpAnyM_one 15 rfl (by kernel_rfl) (fun K hK => ?_)
          go_simp
          refine hK.out _ _ (.inl (by kernel_rfl)) (fun _ => ?_)
          clear hK K
          (try simp only [Act.put, List.setIfInBounds_toArray, List.set_cons_zero, List.set_cons_succ])
          refine wpAnyM_done (by kernel_rfl) ?_ _
          (go_wp2_with fail; go_meet; exact ⟨_, _, rfl, rfl, rfl, Lib.hid HE.out.2⟩)
    · go_simp; have HA := Lib.hid (on_cov HS.out _ (by first | (simp; rfl) | rfl)); have HS2 := Lib.hid (HS.out.alloc (.cells Try.zeroCells29 29)); clear HS; have HS := HS2; clear HS2; (try (have HR2 := Lib.hid (And.intro (HR.out.1.alloc (.cells Try.zeroCells29 29)) HR.out.2); clear HR; have HR := HR2; clear HR2)); (try (have HL2 := Lib.hid (HL.out.below (Below.alloc (Below.refl _ _) (Nat.le_refl _) (.cells Try.zeroCells29 29))); clear HL; have HL := HL2; clear HL2))
      clear hHeld
      refine hK.out _ _ ?_ (fun hHeld => ?_)
      · exact HS.out.pB
      clear hK K
      (try simp only [Act.put, List.setIfInBounds_toArray, List.set_cons_zero, List.set_cons_succ])
      refine wpAnyM_twoS 3 12 rfl rfl (by kernel_rfl) (fun K hK => ?_) (fun K hK => ?_)
      · go_simp; have HL := Lib.hid (slc1_new HS.out (k : Int) _ (by first | (simp; rfl) | rfl)); have HS2 := Lib.hid (HS.out.alloc (.cells #[.int .i64 (k : Int)] 3)); clear HS; have HS := HS2; clear HS2; (try (have HA2 := Lib.hid (And.intro (HA.out.1.alloc (.cells #[.int .i64 (k : Int)] 3)) HA.out.2); clear HA; have HA := HA2; clear HA2)); (try (have HR2 := Lib.hid (And.intro (HR.out.1.alloc (.cells #[.int .i64 (k : Int)] 3)) HR.out.2); clear HR; have HR := HR2; clear HR2))
        clear hHeld
        refine hK.out _ _ ?_ (fun hHeld => ?_)
        · exact HS.out.pB
        clear hK K
        (try simp only [Act.put, List.setIfInBounds_toArray, List.set_cons_zero, List.set_cons_succ])
        refine wpAnyM_twoS 4 12 rfl rfl (by kernel_rfl) (fun K hK => ?_) (fun K hK => ?_)
        · go_simp
          (refine (pick_any _ 1 _ (fun _ => (k : Int)) _ HL.out (by omega)).mono ?_); rintro e w6 ⟨rfl, hb6⟩; (rw [EN.out]); have HS2 := Lib.hid (HS.out.down hb6); clear HS; have HS := HS2; clear HS2 HL; (try (have HA2 := Lib.hid (And.intro (HA.out.1.below hb6) HA.out.2); clear HA; have HA := HA2; clear HA2)); (try (have HR2 := Lib.hid (And.intro (HR.out.1.below hb6) HR.out.2); clear HR; have HR := HR2; clear HR2)); clear hb6
          (try dsimp only)
          (try simp only [Act.put, List.setIfInBounds_toArray, List.set_cons_zero, List.set_cons_succ])
          clear hHeld
          refine hK.out _ _ ?_ (fun hHeld => ?_)
          · exact HS.out.pB
          clear hK K
          (try simp only [Act.put, List.setIfInBounds_toArray, List.set_cons_zero, List.set_cons_succ])
          refine wpAnyM_twoS 6 12 rfl rfl (by kernel_rfl) (fun K hK => ?_) (fun K hK => ?_)
          · go_simp
            (refine (U5.out _ HS.out.fl.cell HS.out.fl.free).mono ?_); rintro e w7 ⟨rfl, hu7⟩; have HS2 := Lib.hid (HS.out.upd hbw hb4 hu7); clear HS; have HS := HS2; clear HS2; (try (have HA2 := Lib.hid (And.intro (HA.out.1.upd hu7 (by have := HA.out.2; simp; omega)) HA.out.2); clear HA; have HA := HA2; clear HA2)); (try (have HR2 := Lib.hid (And.intro (HR.out.1.upd hu7 (by have := HR.out.2; simp; omega)) HR.out.2); clear HR; have HR := HR2; clear HR2)); clear hu7
            (try dsimp only)
            (try simp only [Act.put, List.setIfInBounds_toArray, List.set_cons_zero, List.set_cons_succ])
            clear hHeld
            refine hK.out _ _ ?_ (fun hHeld => ?_)
            · exact HS.out.pB
            clear hK K
            (try simp only [Act.put, List.setIfInBounds_toArray, List.set_cons_zero, List.set_cons_succ])
            refine wpAnyM_take 7 (v := ?_) rfl (by kernel_rfl) (fun _ _ _ h => h) (Or.inl ⟨by rfl, ?_⟩) (by assumption) ?_
            rotate_left
            · (intro wx hSw; (try dsimp only at hSw); go_simp; (try with_reducible rfl))
            (try simp only [Act.put, List.setIfInBounds_toArray, List.set_cons_zero, List.set_cons_succ])
            refine wpAnyM_take 8 (v := ?_) rfl (by kernel_rfl) (fun _ _ _ h => h) (Or.inl ⟨by rfl, ?_⟩) (by assumption) ?_
            rotate_left
            · (intro wx hSw; (try dsimp only at hSw); go_simp; (try with_reducible rfl))
            (try simp only [Act.put, List.setIfInBounds_toArray, List.set_cons_zero, List.set_cons_succ])
            refine wpAnyM_take 9 (v := ?_) rfl (by kernel_rfl) (fun _ _ _ h => h) (Or.inl ⟨by rfl, ?_⟩) (by assumption) ?_
            rotate_left
            · (intro wx hSw; (try dsimp only at hSw); go_simp; (try with_reducible rfl))
            (try simp only [Act.put, List.setIfInBounds_toArray, List.set_cons_zero, List.set_cons_succ])
            refine wpAnyM_take 10 (v := ?_) rfl (by kernel_rfl) (fun _ _ _ h => h) (Or.inl ⟨by rfl, ?_⟩) (by assumption) ?_
            rotate_left
            · (intro wx hSw; (try dsimp only at hSw); go_simp; (try with_reducible rfl))
            (try simp only [Act.put, List.setIfInBounds_toArray, List.set_cons_zero, List.set_cons_succ])
            refine wpAnyM_oneS 12 rfl (by kernel_rfl) (fun K hK => ?_)
            go_simp; have HR := Lib.hid (on_row HS.out _ (by first | (simp; rfl) | rfl)); have HS2 := Lib.hid (HS.out.alloc (.cells #[.int .i64 0, .int .i64 0, .int .i64 0, .int .i64 0, .int .i64 0, .int .i64 0, .int .i64 0, .int .i64 0, .int .i64 0, .int .i64 0, .int .i64 0, .int .i64 0, .int .i64 0, .int .i64 0, .int .i64 0, .int .i64 0, .int .i64 0, .int .i64 0, .int .i64 0, .int .i64 0, .int .i64 0, .int .i64 0, .int .i64 0, .int .i64 0] 31)); clear HS; have HS := HS2; clear HS2; (try (have HA2 := Lib.hid (And.intro (HA.out.1.alloc (.cells #[.int .i64 0, .int .i64 0, .int .i64 0, .int .i64 0, .int .i64 0, .int .i64 0, .int .i64 0, .int .i64 0, .int .i64 0, .int .i64 0, .int .i64 0, .int .i64 0, .int .i64 0, .int .i64 0, .int .i64 0, .int .i64 0, .int .i64 0, .int .i64 0, .int .i64 0, .int .i64 0, .int .i64 0, .int .i64 0, .int .i64 0, .int .i64 0] 31)) HA.out.2); clear HA; have HA := HA2; clear HA2)); (try (have HL2 := Lib.hid (HL.out.below (Below.alloc (Below.refl _ _) (Nat.le_refl _) (.cells #[.int .i64 0, .int .i64 0, .int .i64 0, .int .i64 0, .int .i64 0, .int .i64 0, .int .i64 0, .int .i64 0, .int .i64 0, .int .i64 0, .int .i64 0, .int .i64 0, .int .i64 0, .int .i64 0, .int .i64 0, .int .i64 0, .int .i64 0, .int .i64 0, .int .i64 0, .int .i64 0, .int .i64 0, .int .i64 0, .int .i64 0, .int .i64 0] 31))); clear HL; have HL := HL2; clear HL2))
            clear hHeld
            refine hK.out _ _ ?_ (fun hHeld => ?_)
            · exact HS.out.pB
            clear hK K
            (try simp only [Act.put, List.setIfInBounds_toArray, List.set_cons_zero, List.set_cons_succ])
            have HE := Lib.hid (on_end (F := Fq) (G := Gq) HS.out hbw hb4 HA.out HR.out); have HS2 := Lib.hid (HS.out.row (F := Fq) hbw hb4 HA.out); clear HS; have HS := HS2; clear HS2
            clear hHeld
            refine wpAnyM_doneS 13 rfl (by kernel_rfl) (by rfl) (run_store_row 29 (.tmp 9) (.tmp 55) rfl _ rfl rfl HA.out.1 icov) ?_ (fun hHeld => ?_)
            · exact HS.out.pB
            (try simp only [Act.put])
            have HS2 := Lib.hid HE.out.2.2.2; clear HS; have HS := HS2; clear HS2
            clear hHeld
            refine wpAnyM_doneS 14 rfl (by kernel_rfl) (by rfl) (run_store_row 31 (.tmp 10) (.tmp 56) rfl _ rfl rfl HE.out.1 irow) ?_ (fun hHeld => ?_)
            · exact HS.out.pB
            (try simp only [Act.put])
            refine wpAnyM_one 15 rfl (by kernel_rfl) (fun K hK => ?_)
            go_simp
            refine hK.out _ _ (.inl (by kernel_rfl)) (fun _ => ?_)
            clear hK K
            (try simp only [Act.put, List.setIfInBounds_toArray, List.set_cons_zero, List.set_cons_succ])
            refine wpAnyM_done (by kernel_rfl) ?_ _
            (go_wp2_with fail; go_meet; exact ⟨_, _, rfl, rfl, rfl, Lib.hid HE.out.2⟩)
          · go_simp; have HR := Lib.hid (on_row HS.out _ (by first | (simp; rfl) | rfl)); have HS2 := Lib.hid (HS.out.alloc (.cells #[.int .i64 0, .int .i64 0, .int .i64 0, .int .i64 0, .int .i64 0, .int .i64 0, .int .i64 0, .int .i64 0, .int .i64 0, .int .i64 0, .int .i64 0, .int .i64 0, .int .i64 0, .int .i64 0, .int .i64 0, .int .i64 0, .int .i64 0, .int .i64 0, .int .i64 0, .int .i64 0, .int .i64 0, .int .i64 0, .int .i64 0, .int .i64 0] 31)); clear HS; have HS := HS2; clear HS2; (try (have HA2 := Lib.hid (And.intro (HA.out.1.alloc (.cells #[.int .i64 0, .int .i64 0, .int .i64 0, .int .i64 0, .int .i64 0, .int .i64 0, .int .i64 0, .int .i64 0, .int .i64 0, .int .i64 0, .int .i64 0, .int .i64 0, .int .i64 0, .int .i64 0, .int .i64 0, .int .i64 0, .int .i64 0, .int .i64 0, .int .i64 0, .int .i64 0, .int .i64 0, .int .i64 0, .int .i64 0, .int .i64 0] 31)) HA.out.2); clear HA; have HA := HA2; clear HA2)); (try (have HL2 := Lib.hid (HL.out.below (Below.alloc (Below.refl _ _) (Nat.le_refl _) (.cells #[.int .i64 0, .int .i64 0, .int .i64 0, .int .i64 0, .int .i64 0, .int .i64 0, .int .i64 0, .int .i64 0, .int .i64 0, .int .i64 0, .int .i64 0, .int .i64 0, .int .i64 0, .int .i64 0, .int .i64 0, .int .i64 0, .int .i64 0, .int .i64 0, .int .i64 0, .int .i64 0, .int .i64 0, .int .i64 0, .int .i64 0, .int .i64 0] 31))); clear HL; have HL := HL2; clear HL2))
            clear hHeld
            refine hK.out _ _ ?_ (fun hHeld => ?_)
            · exact HS.out.pB
            clear hK K
            (try simp only [Act.put, List.setIfInBounds_toArray, List.set_cons_zero, List.set_cons_succ])
            refine wpAnyM_oneS 6 rfl (by kernel_rfl) (fun K hK => ?_)
            go_simp
            (refine (U5.out _ HS.out.fl.cell HS.out.fl.free).mono ?_); rintro e w7 ⟨rfl, hu7⟩; have HS2 := Lib.hid (HS.out.upd hbw hb4 hu7); clear HS; have HS := HS2; clear HS2; (try (have HA2 := Lib.hid (And.intro (HA.out.1.upd hu7 (by have := HA.out.2; simp; omega)) HA.out.2); clear HA; have HA := HA2; clear HA2)); (try (have HR2 := Lib.hid (And.intro (HR.out.1.upd hu7 (by have := HR.out.2; simp; omega)) HR.out.2); clear HR; have HR := HR2; clear HR2)); clear hu7
            (try dsimp only)
            (try simp only [Act.put, List.setIfInBounds_toArray, List.set_cons_zero, List.set_cons_succ])
            clear hHeld
            refine hK.out _ _ ?_ (fun hHeld => ?_)
            · exact HS.out.pB
            clear hK K
            (try simp only [Act.put, List.setIfInBounds_toArray, List.set_cons_zero, List.set_cons_succ])
            refine wpAnyM_take 7 (v := ?_) rfl (by kernel_rfl) (fun _ _ _ h => h) (Or.inl ⟨by rfl, ?_⟩) (by assumption) ?_
            rotate_left
            · (intro wx hSw; (try dsimp only at hSw); go_simp; (try with_reducible rfl))
            (try simp only [Act.put, List.setIfInBounds_toArray, List.set_cons_zero, List.set_cons_succ])
            refine wpAnyM_take 8 (v := ?_) rfl (by kernel_rfl) (fun _ _ _ h => h) (Or.inl ⟨by rfl, ?_⟩) (by assumption) ?_
            rotate_left
            · (intro wx hSw; (try dsimp only at hSw); go_simp; (try with_reducible rfl))
            (try simp only [Act.put, List.setIfInBounds_toArray, List.set_cons_zero, List.set_cons_succ])
            refine wpAnyM_take 9 (v := ?_) rfl (by kernel_rfl) (fun _ _ _ h => h) (Or.inl ⟨by rfl, ?_⟩) (by assumption) ?_
            rotate_left
            · (intro wx hSw; (try dsimp only at hSw); go_simp; (try with_reducible rfl))
            (try simp only [Act.put, List.setIfInBounds_toArray, List.set_cons_zero, List.set_cons_succ])
            refine wpAnyM_take 10 (v := ?_) rfl (by kernel_rfl) (fun _ _ _ h => h) (Or.inl ⟨by rfl, ?_⟩) (by assumption) ?_
            rotate_left
            · (intro wx hSw; (try dsimp only at hSw); go_simp; (try with_reducible rfl))
            (try simp only [Act.put, List.setIfInBounds_toArray, List.set_cons_zero, List.set_cons_succ])
            have HE := Lib.hid (on_end (F := Fq) (G := Gq) HS.out hbw hb4 HA.out HR.out); have HS2 := Lib.hid (HS.out.row (F := Fq) hbw hb4 HA.out); clear HS; have HS := HS2; clear HS2
            clear hHeld
            refine wpAnyM_doneS 13 rfl (by kernel_rfl) (by rfl) (run_store_row 29 (.tmp 9) (.tmp 55) rfl _ rfl rfl HA.out.1 icov) ?_ (fun hHeld => ?_)
            · exact HS.out.pB
            (try simp only [Act.put])
            have HS2 := Lib.hid HE.out.2.2.2; clear HS; have HS := HS2; clear HS2
            clear hHeld
            refine wpAnyM_doneS 14 rfl (by kernel_rfl) (by rfl) (run_store_row 31 (.tmp 10) (.tmp 56) rfl _ rfl rfl HE.out.1 irow) ?_ (fun hHeld => ?_)
            · exact HS.out.pB
            (try simp only [Act.put])
            refine wpAnyM_one 15 rfl (by kernel_rfl) (fun K hK => ?_)
            go_simp
            refine hK.out _ _ (.inl (by kernel_rfl)) (fun _ => ?_)
            clear hK K
            (try simp only [Act.put, List.setIfInBounds_toArray, List.set_cons_zero, List.set_cons_succ])
            refine wpAnyM_done (by kernel_rfl) ?_ _
            (go_wp2_with fail; go_meet; exact ⟨_, _, rfl, rfl, rfl, Lib.hid HE.out.2⟩)
        · go_simp; have HR := Lib.hid (on_row HS.out _ (by first | (simp; rfl) | rfl)); have HS2 := Lib.hid (HS.out.alloc (.cells #[.int .i64 0, .int .i64 0, .int .i64 0, .int .i64 0, .int .i64 0, .int .i64 0, .int .i64 0, .int .i64 0, .int .i64 0, .int .i64 0, .int .i64 0, .int .i64 0, .int .i64 0, .int .i64 0, .int .i64 0, .int .i64 0, .int .i64 0, .int .i64 0, .int .i64 0, .int .i64 0, .int .i64 0, .int .i64 0, .int .i64 0, .int .i64 0] 31)); clear HS; have HS := HS2; clear HS2; (try (have HA2 := Lib.hid (And.intro (HA.out.1.alloc (.cells #[.int .i64 0, .int .i64 0, .int .i64 0, .int .i64 0, .int .i64 0, .int .i64 0, .int .i64 0, .int .i64 0, .int .i64 0, .int .i64 0, .int .i64 0, .int .i64 0, .int .i64 0, .int .i64 0, .int .i64 0, .int .i64 0, .int .i64 0, .int .i64 0, .int .i64 0, .int .i64 0, .int .i64 0, .int .i64 0, .int .i64 0, .int .i64 0] 31)) HA.out.2); clear HA; have HA := HA2; clear HA2)); (try (have HL2 := Lib.hid (HL.out.below (Below.alloc (Below.refl _ _) (Nat.le_refl _) (.cells #[.int .i64 0, .int .i64 0, .int .i64 0, .int .i64 0, .int .i64 0, .int .i64 0, .int .i64 0, .int .i64 0, .int .i64 0, .int .i64 0, .int .i64 0, .int .i64 0, .int .i64 0, .int .i64 0, .int .i64 0, .int .i64 0, .int .i64 0, .int .i64 0, .int .i64 0, .int .i64 0, .int .i64 0, .int .i64 0, .int .i64 0, .int .i64 0] 31))); clear HL; have HL := HL2; clear HL2))
          clear hHeld
          refine hK.out _ _ ?_ (fun hHeld => ?_)
          · exact HS.out.pB
          clear hK K
          (try simp only [Act.put, List.setIfInBounds_toArray, List.set_cons_zero, List.set_cons_succ])
          refine wpAnyM_oneS 4 rfl (by kernel_rfl) (fun K hK => ?_)
          go_simp
          (refine (pick_any _ 1 _ (fun _ => (k : Int)) _ HL.out (by omega)).mono ?_); rintro e w6 ⟨rfl, hb6⟩; (rw [EN.out]); have HS2 := Lib.hid (HS.out.down hb6); clear HS; have HS := HS2; clear HS2 HL; (try (have HA2 := Lib.hid (And.intro (HA.out.1.below hb6) HA.out.2); clear HA; have HA := HA2; clear HA2)); (try (have HR2 := Lib.hid (And.intro (HR.out.1.below hb6) HR.out.2); clear HR; have HR := HR2; clear HR2)); clear hb6
          (try dsimp only)
          (try simp only [Act.put, List.setIfInBounds_toArray, List.set_cons_zero, List.set_cons_succ])
          clear hHeld
          refine hK.out _ _ ?_ (fun hHeld => ?_)
          · exact HS.out.pB
          clear hK K
          (try simp only [Act.put, List.setIfInBounds_toArray, List.set_cons_zero, List.set_cons_succ])
          refine wpAnyM_oneS 6 rfl (by kernel_rfl) (fun K hK => ?_)
          go_simp
          (refine (U5.out _ HS.out.fl.cell HS.out.fl.free).mono ?_); rintro e w7 ⟨rfl, hu7⟩; have HS2 := Lib.hid (HS.out.upd hbw hb4 hu7); clear HS; have HS := HS2; clear HS2; (try (have HA2 := Lib.hid (And.intro (HA.out.1.upd hu7 (by have := HA.out.2; simp; omega)) HA.out.2); clear HA; have HA := HA2; clear HA2)); (try (have HR2 := Lib.hid (And.intro (HR.out.1.upd hu7 (by have := HR.out.2; simp; omega)) HR.out.2); clear HR; have HR := HR2; clear HR2)); clear hu7
          (try dsimp only)
          (try simp only [Act.put, List.setIfInBounds_toArray, List.set_cons_zero, List.set_cons_succ])
          clear hHeld
          refine hK.out _ _ ?_ (fun hHeld => ?_)
          · exact HS.out.pB
          clear hK K
          (try simp only [Act.put, List.setIfInBounds_toArray, List.set_cons_zero, List.set_cons_succ])
          refine wpAnyM_take 7 (v := ?_) rfl (by kernel_rfl) (fun _ _ _ h => h) (Or.inl ⟨by rfl, ?_⟩) (by assumption) ?_
          rotate_left
          · (intro wx hSw; (try dsimp only at hSw); go_simp; (try with_reducible rfl))
          (try simp only [Act.put, List.setIfInBounds_toArray, List.set_cons_zero, List.set_cons_succ])
          refine wpAnyM_take 8 (v := ?_) rfl (by kernel_rfl) (fun _ _ _ h => h) (Or.inl ⟨by rfl, ?_⟩) (by assumption) ?_
          rotate_left
          · (intro wx hSw; (try dsimp only at hSw); go_simp; (try with_reducible rfl))
          (try simp only [Act.put, List.setIfInBounds_toArray, List.set_cons_zero, List.set_cons_succ])
          refine wpAnyM_take 9 (v := ?_) rfl (by kernel_rfl) (fun _ _ _ h => h) (Or.inl ⟨by rfl, ?_⟩) (by assumption) ?_
          rotate_left
          · (intro wx hSw; (try dsimp only at hSw); go_simp; (try with_reducible rfl))
          (try simp only [Act.put, List.setIfInBounds_toArray, List.set_cons_zero, List.set_cons_succ])
          refine wpAnyM_take 10 (v := ?_) rfl (by kernel_rfl) (fun _ _ _ h => h) (Or.inl ⟨by rfl, ?_⟩) (by assumption) ?_
          rotate_left
          · (intro wx hSw; (try dsimp only at hSw); go_simp; (try with_reducible rfl))
          (try simp only [Act.put, List.setIfInBounds_toArray, List.set_cons_zero, List.set_cons_succ])
          have HE := Lib.hid (on_end (F := Fq) (G := Gq) HS.out hbw hb4 HA.out HR.out); have HS2 := Lib.hid (HS.out.row (F := Fq) hbw hb4 HA.out); clear HS; have HS := HS2; clear HS2
          clear hHeld
          refine wpAnyM_doneS 13 rfl (by kernel_rfl) (by rfl) (run_store_row 29 (.tmp 9) (.tmp 55) rfl _ rfl rfl HA.out.1 icov) ?_ (fun hHeld => ?_)
          · exact HS.out.pB
          (try simp only [Act.put])
          have HS2 := Lib.hid HE.out.2.2.2; clear HS; have HS := HS2; clear HS2
          clear hHeld
          refine wpAnyM_doneS 14 rfl (by kernel_rfl) (by rfl) (run_store_row 31 (.tmp 10) (.tmp 56) rfl _ rfl rfl HE.out.1 irow) ?_ (fun hHeld => ?_)
          · exact HS.out.pB
          (try simp only [Act.put])
          refine wpAnyM_one 15 rfl (by kernel_rfl) (fun K hK => ?_)
          go_simp
          refine hK.out _ _ (.inl (by kernel_rfl)) (fun _ => ?_)
          clear hK K
          (try simp only [Act.put, List.setIfInBounds_toArray, List.set_cons_zero, List.set_cons_succ])
          refine wpAnyM_done (by kernel_rfl) ?_ _
          (go_wp2_with fail; go_meet; exact ⟨_, _, rfl, rfl, rfl, Lib.hid HE.out.2⟩)
      · go_simp; have HR := Lib.hid (on_row HS.out _ (by first | (simp; rfl) | rfl)); have HS2 := Lib.hid (HS.out.alloc (.cells #[.int .i64 0, .int .i64 0, .int .i64 0, .int .i64 0, .int .i64 0, .int .i64 0, .int .i64 0, .int .i64 0, .int .i64 0, .int .i64 0, .int .i64 0, .int .i64 0, .int .i64 0, .int .i64 0, .int .i64 0, .int .i64 0, .int .i64 0, .int .i64 0, .int .i64 0, .int .i64 0, .int .i64 0, .int .i64 0, .int .i64 0, .int .i64 0] 31)); clear HS; have HS := HS2; clear HS2; (try (have HA2 := Lib.hid (And.intro (HA.out.1.alloc (.cells #[.int .i64 0, .int .i64 0, .int .i64 0, .int .i64 0, .int .i64 0, .int .i64 0, .int .i64 0, .int .i64 0, .int .i64 0, .int .i64 0, .int .i64 0, .int .i64 0, .int .i64 0, .int .i64 0, .int .i64 0, .int .i64 0, .int .i64 0, .int .i64 0, .int .i64 0, .int .i64 0, .int .i64 0, .int .i64 0, .int .i64 0, .int .i64 0] 31)) HA.out.2); clear HA; have HA := HA2; clear HA2)); (try (have HL2 := Lib.hid (HL.out.below (Below.alloc (Below.refl _ _) (Nat.le_refl _) (.cells #[.int .i64 0, .int .i64 0, .int .i64 0, .int .i64 0, .int .i64 0, .int .i64 0, .int .i64 0, .int .i64 0, .int .i64 0, .int .i64 0, .int .i64 0, .int .i64 0, .int .i64 0, .int .i64 0, .int .i64 0, .int .i64 0, .int .i64 0, .int .i64 0, .int .i64 0, .int .i64 0, .int .i64 0, .int .i64 0, .int .i64 0, .int .i64 0] 31))); clear HL; have HL := HL2; clear HL2))
        clear hHeld
        refine hK.out _ _ ?_ (fun hHeld => ?_)
        · exact HS.out.pB
        clear hK K
        (try simp only [Act.put, List.setIfInBounds_toArray, List.set_cons_zero, List.set_cons_succ])
        refine wpAnyM_oneS 3 rfl (by kernel_rfl) (fun K hK => ?_)
        go_simp; have HL := Lib.hid (slc1_new HS.out (k : Int) _ (by first | (simp; rfl) | rfl)); have HS2 := Lib.hid (HS.out.alloc (.cells #[.int .i64 (k : Int)] 3)); clear HS; have HS := HS2; clear HS2; (try (have HA2 := Lib.hid (And.intro (HA.out.1.alloc (.cells #[.int .i64 (k : Int)] 3)) HA.out.2); clear HA; have HA := HA2; clear HA2)); (try (have HR2 := Lib.hid (And.intro (HR.out.1.alloc (.cells #[.int .i64 (k : Int)] 3)) HR.out.2); clear HR; have HR := HR2; clear HR2))
        clear hHeld
        refine hK.out _ _ ?_ (fun hHeld => ?_)
        · exact HS.out.pB
        clear hK K
        (try simp only [Act.put, List.setIfInBounds_toArray, List.set_cons_zero, List.set_cons_succ])
        refine wpAnyM_oneS 4 rfl (by kernel_rfl) (fun K hK => ?_)
        go_simp
        (refine (pick_any _ 1 _ (fun _ => (k : Int)) _ HL.out (by omega)).mono ?_); rintro e w6 ⟨rfl, hb6⟩; (rw [EN.out]); have HS2 := Lib.hid (HS.out.down hb6); clear HS; have HS := HS2; clear HS2 HL; (try (have HA2 := Lib.hid (And.intro (HA.out.1.below hb6) HA.out.2); clear HA; have HA := HA2; clear HA2)); (try (have HR2 := Lib.hid (And.intro (HR.out.1.below hb6) HR.out.2); clear HR; have HR := HR2; clear HR2)); clear hb6
        (try dsimp only)
        (try simp only [Act.put, List.setIfInBounds_toArray, List.set_cons_zero, List.set_cons_succ])
        clear hHeld
        refine hK.out _ _ ?_ (fun hHeld => ?_)
        · exact HS.out.pB
        clear hK K
        (try simp only [Act.put, List.setIfInBounds_toArray, List.set_cons_zero, List.set_cons_succ])
        refine wpAnyM_oneS 6 rfl (by kernel_rfl) (fun K hK => ?_)
        go_simp
        (refine (U5.out _ HS.out.fl.cell HS.out.fl.free).mono ?_); rintro e w7 ⟨rfl, hu7⟩; have HS2 := Lib.hid (HS.out.upd hbw hb4 hu7); clear HS; have HS := HS2; clear HS2; (try (have HA2 := Lib.hid (And.intro (HA.out.1.upd hu7 (by have := HA.out.2; simp; omega)) HA.out.2); clear HA; have HA := HA2; clear HA2)); (try (have HR2 := Lib.hid (And.intro (HR.out.1.upd hu7 (by have := HR.out.2; simp; omega)) HR.out.2); clear HR; have HR := HR2; clear HR2)); clear hu7
        (try dsimp only)
        (try simp only [Act.put, List.setIfInBounds_toArray, List.set_cons_zero, List.set_cons_succ])
        clear hHeld
        refine hK.out _ _ ?_ (fun hHeld => ?_)
        · exact HS.out.pB
        clear hK K
        (try simp only [Act.put, List.setIfInBounds_toArray, List.set_cons_zero, List.set_cons_succ])
        refine wpAnyM_take 7 (v := ?_) rfl (by kernel_rfl) (fun _ _ _ h => h) (Or.inl ⟨by rfl, ?_⟩) (by assumption) ?_
        rotate_left
        · (intro wx hSw; (try dsimp only at hSw); go_simp; (try with_reducible rfl))
        (try simp only [Act.put, List.setIfInBounds_toArray, List.set_cons_zero, List.set_cons_succ])
        refine wpAnyM_take 8 (v := ?_) rfl (by kernel_rfl) (fun _ _ _ h => h) (Or.inl ⟨by rfl, ?_⟩) (by assumption) ?_
        rotate_left
        · (intro wx hSw; (try dsimp only at hSw); go_simp; (try with_reducible rfl))
        (try simp only [Act.put, List.setIfInBounds_toArray, List.set_cons_zero, List.set_cons_succ])
        refine wpAnyM_take 9 (v := ?_) rfl (by kernel_rfl) (fun _ _ _ h => h) (Or.inl ⟨by rfl, ?_⟩) (by assumption) ?_
        rotate_left
        · (intro wx hSw; (try dsimp only at hSw); go_simp; (try with_reducible rfl))
        (try simp only [Act.put, List.setIfInBounds_toArray, List.set_cons_zero, List.set_cons_succ])
        refine wpAnyM_take 10 (v := ?_) rfl (by kernel_rfl) (fun _ _ _ h => h) (Or.inl ⟨by rfl, ?_⟩) (by assumption) ?_
        rotate_left
        · (intro wx hSw; (try dsimp only at hSw); go_simp; (try with_reducible rfl))
        (try simp only [Act.put, List.setIfInBounds_toArray, List.set_cons_zero, List.set_cons_succ])
        have HE := Lib.hid (on_end (F := Fq) (G := Gq) HS.out hbw hb4 HA.out HR.out); have HS2 := Lib.hid (HS.out.row (F := Fq) hbw hb4 HA.out); clear HS; have HS := HS2; clear HS2
        clear hHeld
        refine wpAnyM_doneS 13 rfl (by kernel_rfl) (by rfl) (run_store_row 29 (.tmp 9) (.tmp 55) rfl _ rfl rfl HA.out.1 icov) ?_ (fun hHeld => ?_)
        · exact HS.out.pB
        (try simp only [Act.put])
        have HS2 := Lib.hid HE.out.2.2.2; clear HS; have HS := HS2; clear HS2
        clear hHeld
        refine wpAnyM_doneS 14 rfl (by kernel_rfl) (by rfl) (run_store_row 31 (.tmp 10) (.tmp 56) rfl _ rfl rfl HE.out.1 irow) ?_ (fun hHeld => ?_)
        · exact HS.out.pB
        (try simp only [Act.put])
        refine wpAnyM_one 15 rfl (by kernel_rfl) (fun K hK => ?_)
        go_simp
        refine hK.out _ _ (.inl (by kernel_rfl)) (fun _ => ?_)
        clear hK K
        (try simp only [Act.put, List.setIfInBounds_toArray, List.set_cons_zero, List.set_cons_succ])
        refine wpAnyM_done (by kernel_rfl) ?_ _
        (go_wp2_with fail; go_meet; exact ⟨_, _, rfl, rfl, rfl, Lib.hid HE.out.2⟩)
    · go_simp; have HR := Lib.hid (on_row HS.out _ (by first | (simp; rfl) | rfl)); have HS2 := Lib.hid (HS.out.alloc (.cells #[.int .i64 0, .int .i64 0, .int .i64 0, .int .i64 0, .int .i64 0, .int .i64 0, .int .i64 0, .int .i64 0, .int .i64 0, .int .i64 0, .int .i64 0, .int .i64 0, .int .i64 0, .int .i64 0, .int .i64 0, .int .i64 0, .int .i64 0, .int .i64 0, .int .i64 0, .int .i64 0, .int .i64 0, .int .i64 0, .int .i64 0, .int .i64 0] 31)); clear HS; have HS := HS2; clear HS2; (try (have HA2 := Lib.hid (And.intro (HA.out.1.alloc (.cells #[.int .i64 0, .int .i64 0, .int .i64 0, .int .i64 0, .int .i64 0, .int .i64 0, .int .i64 0, .int .i64 0, .int .i64 0, .int .i64 0, .int .i64 0, .int .i64 0, .int .i64 0, .int .i64 0, .int .i64 0, .int .i64 0, .int .i64 0, .int .i64 0, .int .i64 0, .int .i64 0, .int .i64 0, .int .i64 0, .int .i64 0, .int .i64 0] 31)) HA.out.2); clear HA; have HA := HA2; clear HA2)); (try (have HL2 := Lib.hid (HL.out.below (Below.alloc (Below.refl _ _) (Nat.le_refl _) (.cells #[.int .i64 0, .int .i64 0, .int .i64 0, .int .i64 0, .int .i64 0, .int .i64 0, .int .i64 0, .int .i64 0, .int .i64 0, .int .i64 0, .int .i64 0, .int .i64 0, .int .i64 0, .int .i64 0, .int .i64 0, .int .i64 0, .int .i64 0, .int .i64 0, .int .i64 0, .int .i64 0, .int .i64 0, .int .i64 0, .int .i64 0, .int .i64 0] 31))); clear HL; have HL := HL2; clear HL2))
      clear hHeld
      refine hK.out _ _ ?_ (fun hHeld => ?_)
      · exact HS.out.pB
      clear hK K
      (try simp only [Act.put, List.setIfInBounds_toArray, List.set_cons_zero, List.set_cons_succ])
      refine wpAnyM_twoS 3 11 rfl rfl (by kernel_rfl) (fun K hK => ?_) (fun K hK => ?_)
      · go_simp; have HL := Lib.hid (slc1_new HS.out (k : Int) _ (by first | (simp; rfl) | rfl)); have HS2 := Lib.hid (HS.out.alloc (.cells #[.int .i64 (k : Int)] 3)); clear HS; have HS := HS2; clear HS2; (try (have HA2 := Lib.hid (And.intro (HA.out.1.alloc (.cells #[.int .i64 (k : Int)] 3)) HA.out.2); clear HA; have HA := HA2; clear HA2)); (try (have HR2 := Lib.hid (And.intro (HR.out.1.alloc (.cells #[.int .i64 (k : Int)] 3)) HR.out.2); clear HR; have HR := HR2; clear HR2))
        clear hHeld
        refine hK.out _ _ ?_ (fun hHeld => ?_)
        · exact HS.out.pB
        clear hK K
        (try simp only [Act.put, List.setIfInBounds_toArray, List.set_cons_zero, List.set_cons_succ])
        refine wpAnyM_twoS 4 11 rfl rfl (by kernel_rfl) (fun K hK => ?_) (fun K hK => ?_)
        · go_simp
          (refine (pick_any _ 1 _ (fun _ => (k : Int)) _ HL.out (by omega)).mono ?_); rintro e w6 ⟨rfl, hb6⟩; (rw [EN.out]); have HS2 := Lib.hid (HS.out.down hb6); clear HS; have HS := HS2; clear HS2 HL; (try (have HA2 := Lib.hid (And.intro (HA.out.1.below hb6) HA.out.2); clear HA; have HA := HA2; clear HA2)); (try (have HR2 := Lib.hid (And.intro (HR.out.1.below hb6) HR.out.2); clear HR; have HR := HR2; clear HR2)); clear hb6
          (try dsimp only)
          (try simp only [Act.put, List.setIfInBounds_toArray, List.set_cons_zero, List.set_cons_succ])
          clear hHeld
          refine hK.out _ _ ?_ (fun hHeld => ?_)
          · exact HS.out.pB
          clear hK K
          (try simp only [Act.put, List.setIfInBounds_toArray, List.set_cons_zero, List.set_cons_succ])
          refine wpAnyM_twoS 6 11 rfl rfl (by kernel_rfl) (fun K hK => ?_) (fun K hK => ?_)
          · go_simp
            (refine (U5.out _ HS.out.fl.cell HS.out.fl.free).mono ?_); rintro e w7 ⟨rfl, hu7⟩; have HS2 := Lib.hid (HS.out.upd hbw hb4 hu7); clear HS; have HS := HS2; clear HS2; (try (have HA2 := Lib.hid (And.intro (HA.out.1.upd hu7 (by have := HA.out.2; simp; omega)) HA.out.2); clear HA; have HA := HA2; clear HA2)); (try (have HR2 := Lib.hid (And.intro (HR.out.1.upd hu7 (by have := HR.out.2; simp; omega)) HR.out.2); clear HR; have HR := HR2; clear HR2)); clear hu7
            (try dsimp only)
            (try simp only [Act.put, List.setIfInBounds_toArray, List.set_cons_zero, List.set_cons_succ])
            clear hHeld
            refine hK.out _ _ ?_ (fun hHeld => ?_)
            · exact HS.out.pB
            clear hK K
            (try simp only [Act.put, List.setIfInBounds_toArray, List.set_cons_zero, List.set_cons_succ])
            refine wpAnyM_take 7 (v := ?_) rfl (by kernel_rfl) (fun _ _ _ h => h) (Or.inl ⟨by rfl, ?_⟩) (by assumption) ?_
            rotate_left
            · (intro wx hSw; (try dsimp only at hSw); go_simp; (try with_reducible rfl))
            (try simp only [Act.put, List.setIfInBounds_toArray, List.set_cons_zero, List.set_cons_succ])
            refine wpAnyM_take 8 (v := ?_) rfl (by kernel_rfl) (fun _ _ _ h => h) (Or.inl ⟨by rfl, ?_⟩) (by assumption) ?_
            rotate_left
            · (intro wx hSw; (try dsimp only at hSw); go_simp; (try with_reducible rfl))
            (try simp only [Act.put, List.setIfInBounds_toArray, List.set_cons_zero, List.set_cons_succ])
            refine wpAnyM_take 9 (v := ?_) rfl (by kernel_rfl) (fun _ _ _ h => h) (Or.inl ⟨by rfl, ?_⟩) (by assumption) ?_
            rotate_left
            · (intro wx hSw; (try dsimp only at hSw); go_simp; (try with_reducible rfl))
            (try simp only [Act.put, List.setIfInBounds_toArray, List.set_cons_zero, List.set_cons_succ])
            refine wpAnyM_take 10 (v := ?_) rfl (by kernel_rfl) (fun _ _ _ h => h) (Or.inl ⟨by rfl, ?_⟩) (by assumption) ?_
            rotate_left
            · (intro wx hSw; (try dsimp only at hSw); go_simp; (try with_reducible rfl))
            (try simp only [Act.put, List.setIfInBounds_toArray, List.set_cons_zero, List.set_cons_succ])
            refine wpAnyM_oneS 11 rfl (by kernel_rfl) (fun K hK => ?_)
            go_simp; have HA := Lib.hid (on_cov HS.out _ (by first | (simp; rfl) | rfl)); have HS2 := Lib.hid (HS.out.alloc (.cells Try.zeroCells29 29)); clear HS; have HS := HS2; clear HS2; (try (have HR2 := Lib.hid (And.intro (HR.out.1.alloc (.cells Try.zeroCells29 29)) HR.out.2); clear HR; have HR := HR2; clear HR2)); (try (have HL2 := Lib.hid (HL.out.below (Below.alloc (Below.refl _ _) (Nat.le_refl _) (.cells Try.zeroCells29 29))); clear HL; have HL := HL2; clear HL2))
            clear hHeld
            refine hK.out _ _ ?_ (fun hHeld => ?_)
            · exact HS.out.pB
            clear hK K
            (try simp only [Act.put, List.setIfInBounds_toArray, List.set_cons_zero, List.set_cons_succ])
            have HE := Lib.hid (on_end (F := Fq) (G := Gq) HS.out hbw hb4 HA.out HR.out); have HS2 := Lib.hid (HS.out.row (F := Fq) hbw hb4 HA.out); clear HS; have HS := HS2; clear HS2
            clear hHeld
            refine wpAnyM_doneS 13 rfl (by kernel_rfl) (by rfl) (run_store_row 29 (.tmp 9) (.tmp 55) rfl _ rfl rfl HA.out.1 icov) ?_ (fun hHeld => ?_)
            · exact HS.out.pB
            (try simp only [Act.put])
            have HS2 := Lib.hid HE.out.2.2.2; clear HS; have HS := HS2; clear HS2
            clear hHeld
            refine wpAnyM_doneS 14 rfl (by kernel_rfl) (by rfl) (run_store_row 31 (.tmp 10) (.tmp 56) rfl _ rfl rfl HE.out.1 irow) ?_ (fun hHeld => ?_)
            · exact HS.out.pB
            (try simp only [Act.put])
            refine wpAnyM_one 15 rfl (by kernel_rfl) (fun K hK => ?_)
            go_simp
            refine hK.out _ _ (.inl (by kernel_rfl)) (fun _ => ?_)
            clear hK K
            (try simp only [Act.put, List.setIfInBounds_toArray, List.set_cons_zero, List.set_cons_succ])
            refine wpAnyM_done (by kernel_rfl) ?_ _
            (go_wp2_with fail; go_meet; exact ⟨_, _, rfl, rfl, rfl, Lib.hid HE.out.2⟩)
          · go_simp; have HA := Lib.hid (on_cov HS.out _ (by first | (simp; rfl) | rfl)); have HS2 := Lib.hid (HS.out.alloc (.cells Try.zeroCells29 29)); clear HS; have HS := HS2; clear HS2; (try (have HR2 := Lib.hid (And.intro (HR.out.1.alloc (.cells Try.zeroCells29 29)) HR.out.2); clear HR; have HR := HR2; clear HR2)); (try (have HL2 := Lib.hid (HL.out.below (Below.alloc (Below.refl _ _) (Nat.le_refl _) (.cells Try.zeroCells29 29))); clear HL; have HL := HL2; clear HL2))
            clear hHeld
            refine hK.out _ _ ?_ (fun hHeld => ?_)
            · exact HS.out.pB
            clear hK K
            (try simp only [Act.put, List.setIfInBounds_toArray, List.set_cons_zero, List.set_cons_succ])
            refine wpAnyM_oneS 6 rfl (by kernel_rfl) (fun K hK => ?_)
            go_simp
            (refine (U5.out _ HS.out.fl.cell HS.out.fl.free).mono ?_); rintro e w7 ⟨rfl, hu7⟩; have HS2 := Lib.hid (HS.out.upd hbw hb4 hu7); clear HS; have HS := HS2; clear HS2; (try (have HA2 := Lib.hid (And.intro (HA.out.1.upd hu7 (by have := HA.out.2; simp; omega)) HA.out.2); clear HA; have HA := HA2; clear HA2)); (try (have HR2 := Lib.hid (And.intro (HR.out.1.upd hu7 (by have := HR.out.2; simp; omega)) HR.out.2); clear HR; have HR := HR2; clear HR2)); clear hu7
            (try dsimp only)
            (try simp only [Act.put, List.setIfInBounds_toArray, List.set_cons_zero, List.set_cons_succ])
            clear hHeld
            refine hK.out _ _ ?_ (fun hHeld => ?_)
            · exact HS.out.pB
            clear hK K
            (try simp only [Act.put, List.setIfInBounds_toArray, List.set_cons_zero, List.set_cons_succ])
            refine wpAnyM_take 7 (v := ?_) rfl (by kernel_rfl) (fun _ _ _ h => h) (Or.inl ⟨by rfl, ?_⟩) (by assumption) ?_
            rotate_left
            · (intro wx hSw; (try dsimp only at hSw); go_simp; (try with_reducible rfl))
            (try simp only [Act.put, List.setIfInBounds_toArray, List.set_cons_zero, List.set_cons_succ])
            refine wpAnyM_take 8 (v := ?_) rfl (by kernel_rfl) (fun _ _ _ h => h) (Or.inl ⟨by rfl, ?_⟩) (by assumption) ?_
            rotate_left
            · (intro wx hSw; (try dsimp only at hSw); go_simp; (try with_reducible rfl))
            (try simp only [Act.put, List.setIfInBounds_toArray, List.set_cons_zero, List.set_cons_succ])
            refine wpAnyM_take 9 (v := ?_) rfl (by kernel_rfl) (fun _ _ _ h => h) (Or.inl ⟨by rfl, ?_⟩) (by assumption) ?_
            rotate_left
            · (intro wx hSw; (try dsimp only at hSw); go_simp; (try with_reducible rfl))
            (try simp only [Act.put, List.setIfInBounds_toArray, List.set_cons_zero, List.set_cons_succ])
            refine wpAnyM_take 10 (v := ?_) rfl (by kernel_rfl) (fun _ _ _ h => h) (Or.inl ⟨by rfl, ?_⟩) (by assumption) ?_
            rotate_left
            · (intro wx hSw; (try dsimp only at hSw); go_simp; (try with_reducible rfl))
            (try simp only [Act.put, List.setIfInBounds_toArray, List.set_cons_zero, List.set_cons_succ])
            have HE := Lib.hid (on_end (F := Fq) (G := Gq) HS.out hbw hb4 HA.out HR.out); have HS2 := Lib.hid (HS.out.row (F := Fq) hbw hb4 HA.out); clear HS; have HS := HS2; clear HS2
            clear hHeld
            refine wpAnyM_doneS 13 rfl (by kernel_rfl) (by rfl) (run_store_row 29 (.tmp 9) (.tmp 55) rfl _ rfl rfl HA.out.1 icov) ?_ (fun hHeld => ?_)
            · exact HS.out.pB
            (try simp only [Act.put])
            have HS2 := Lib.hid HE.out.2.2.2; clear HS; have HS := HS2; clear HS2
            clear hHeld
            refine wpAnyM_doneS 14 rfl (by kernel_rfl) (by rfl) (run_store_row 31 (.tmp 10) (.tmp 56) rfl _ rfl rfl HE.out.1 irow) ?_ (fun hHeld => ?_)
            · exact HS.out.pB
            (try simp only [Act.put])
            refine wpAnyM_one 15 rfl (by kernel_rfl) (fun K hK => ?_)
            go_simp
            refine hK.out _ _ (.inl (by kernel_rfl)) (fun _ => ?_)
            clear hK K
            (try simp only [Act.put, List.setIfInBounds_toArray, List.set_cons_zero, List.set_cons_succ])
            refine wpAnyM_done (by kernel_rfl) ?_ _
            (go_wp2_with fail; go_meet; exact ⟨_, _, rfl, rfl, rfl, Lib.hid HE.out.2⟩)
        · go_simp; have HA := Lib.hid (on_cov HS.out _ (by first | (simp; rfl) | rfl)); have HS2 := Lib.hid (HS.out.alloc (.cells Try.zeroCells29 29)); clear HS; have HS := HS2; clear HS2; (try (have HR2 := Lib.hid (And.intro (HR.out.1.alloc (.cells Try.zeroCells29 29)) HR.out.2); clear HR; have HR := HR2; clear HR2)); (try (have HL2 := Lib.hid (HL.out.below (Below.alloc (Below.refl _ _) (Nat.le_refl _) (.cells Try.zeroCells29 29))); clear HL; have HL := HL2; clear HL2))
          clear hHeld
          refine hK.out _ _ ?_ (fun hHeld => ?_)
          · exact HS.out.pB
          clear hK K
          (try simp only [Act.put, List.setIfInBounds_toArray, List.set_cons_zero, List.set_cons_succ])
          refine wpAnyM_oneS 4 rfl (by kernel_rfl) (fun K hK => ?_)
          go_simp
          (refine (pick_any _ 1 _ (fun _ => (k : Int)) _ HL.out (by omega)).mono ?_); rintro e w6 ⟨rfl, hb6⟩; (rw [EN.out]); have HS2 := Lib.hid (HS.out.down hb6); clear HS; have HS := HS2; clear HS2 HL; (try (have HA2 := Lib.hid (And.intro (HA.out.1.below hb6) HA.out.2); clear HA; have HA := HA2; clear HA2)); (try (have HR2 := Lib.hid (And.intro (HR.out.1.below hb6) HR.out.2); clear HR; have HR := HR2; clear HR2)); clear hb6
          (try dsimp only)
          (try simp only [Act.put, List.setIfInBounds_toArray, List.set_cons_zero, List.set_cons_succ])
          clear hHeld
          refine hK.out _ _ ?_ (fun hHeld => ?_)
          · exact HS.out.pB
          clear hK K
          (try simp only [Act.put, List.setIfInBounds_toArray, List.set_cons_zero, List.set_cons_succ])
          refine wpAnyM_oneS 6 rfl (by kernel_rfl) (fun K hK => ?_)
          go_simp
          (refine (U5.out _ HS.out.fl.cell HS.out.fl.free).mono ?_); rintro e w7 ⟨rfl, hu7⟩; have HS2 := Lib.hid (HS.out.upd hbw hb4 hu7); clear HS; have HS := HS2; clear HS2; (try (have HA2 := Lib.hid (And.intro (HA.out.1.upd hu7 (by have := HA.out.2; simp; omega)) HA.out.2); clear HA; have HA := HA2; clear HA2)); (try (have HR2 := Lib.hid (And.intro (HR.out.1.upd hu7 (by have := HR.out.2; simp; omega)) HR.out.2); clear HR; have HR := HR2; clear HR2)); clear hu7
          (try dsimp only)
          (try simp only [Act.put, List.setIfInBounds_toArray, List.set_cons_zero, List.set_cons_succ])
          clear hHeld
          refine hK.out _ _ ?_ (fun hHeld => ?_)
          · exact HS.out.pB
          clear hK K
          (try simp only [Act.put, List.setIfInBounds_toArray, List.set_cons_zero, List.set_cons_succ])
          refine wpAnyM_take 7 (v := ?_) rfl (by kernel_rfl) (fun _ _ _ h => h) (Or.inl ⟨by rfl, ?_⟩) (by assumption) ?_
          rotate_left
          · (intro wx hSw; (try dsimp only at hSw); go_simp; (try with_reducible rfl))
          (try simp only [Act.put, List.setIfInBounds_toArray, List.set_cons_zero, List.set_cons_succ])
          refine wpAnyM_take 8 (v := ?_) rfl (by kernel_rfl) (fun _ _ _ h => h) (Or.inl ⟨by rfl, ?_⟩) (by assumption) ?_
          rotate_left
          · (intro wx hSw; (try dsimp only at hSw); go_simp; (try with_reducible rfl))
          (try simp only [Act.put, List.setIfInBounds_toArray, List.set_cons_zero, List.set_cons_succ])
          refine wpAnyM_take 9 (v := ?_) rfl (by kernel_rfl) (fun _ _ _ h => h) (Or.inl ⟨by rfl, ?_⟩) (by assumption) ?_
          rotate_left
          · (intro wx hSw; (try dsimp only at hSw); go_simp; (try with_reducible rfl))
          (try simp only [Act.put, List.setIfInBounds_toArray, List.set_cons_zero, List.set_cons_succ])
          refine wpAnyM_take 10 (v := ?_) rfl (by kernel_rfl) (fun _ _ _ h => h) (Or.inl ⟨by rfl, ?_⟩) (by assumption) ?_
          rotate_left
          · (intro wx hSw; (try dsimp only at hSw); go_simp; (try with_reducible rfl))
          (try simp only [Act.put, List.setIfInBounds_toArray, List.set_cons_zero, List.set_cons_succ])
          have HE := Lib.hid (on_end (F := Fq) (G := Gq) HS.out hbw hb4 HA.out HR.out); have HS2 := Lib.hid (HS.out.row (F := Fq) hbw hb4 HA.out); clear HS; have HS := HS2; clear HS2
          clear hHeld
          refine wpAnyM_doneS 13 rfl (by kernel_rfl) (by rfl) (run_store_row 29 (.tmp 9) (.tmp 55) rfl _ rfl rfl HA.out.1 icov) ?_ (fun hHeld => ?_)
          · exact HS.out.pB
          (try simp only [Act.put])
          have HS2 := Lib.hid HE.out.2.2.2; clear HS; have HS := HS2; clear HS2
          clear hHeld
          refine wpAnyM_doneS 14 rfl (by kernel_rfl) (by rfl) (run_store_row 31 (.tmp 10) (.tmp 56) rfl _ rfl rfl HE.out.1 irow) ?_ (fun hHeld => ?_)
          · exact HS.out.pB
          (try simp only [Act.put])
          refine wpAnyM_one 15 rfl (by kernel_rfl) (fun K hK => ?_)
          go_simp
          refine hK.out _ _ (.inl (by kernel_rfl)) (fun _ => ?_)
          clear hK K
          (try simp only [Act.put, List.setIfInBounds_toArray, List.set_cons_zero, List.set_cons_succ])
          refine wpAnyM_done (by kernel_rfl) ?_ _
          (go_wp2_with fail; go_meet; exact ⟨_, _, rfl, rfl, rfl, Lib.hid HE.out.2⟩)
      · go_simp; have HA := Lib.hid (on_cov HS.out _ (by first | (simp; rfl) | rfl)); have HS2 := Lib.hid (HS.out.alloc (.cells Try.zeroCells29 29)); clear HS; have HS := HS2; clear HS2; (try (have HR2 := Lib.hid (And.intro (HR.out.1.alloc (.cells Try.zeroCells29 29)) HR.out.2); clear HR; have HR := HR2; clear HR2)); (try (have HL2 := Lib.hid (HL.out.below (Below.alloc (Below.refl _ _) (Nat.le_refl _) (.cells Try.zeroCells29 29))); clear HL; have HL := HL2; clear HL2))
        clear hHeld
        refine hK.out _ _ ?_ (fun hHeld => ?_)
        · exact HS.out.pB
        clear hK K
        (try simp only [Act.put, List.setIfInBounds_toArray, List.set_cons_zero, List.set_cons_succ])
        refine wpAnyM_oneS 3 rfl (by kernel_rfl) (fun K hK => ?_)
        go_simp; have HL := Lib.hid (slc1_new HS.out (k : Int) _ (by first | (simp; rfl) | rfl)); have HS2 := Lib.hid (HS.out.alloc (.cells #[.int .i64 (k : Int)] 3)); clear HS; have HS := HS2; clear HS2; (try (have HA2 := Lib.hid (And.intro (HA.out.1.alloc (.cells #[.int .i64 (k : Int)] 3)) HA.out.2); clear HA; have HA := HA2; clear HA2)); (try (have HR2 := Lib.hid (And.intro (HR.out.1.alloc (.cells #[.int .i64 (k : Int)] 3)) HR.out.2); clear HR; have HR := HR2; clear HR2))
        clear hHeld
        refine hK.out _ _ ?_ (fun hHeld => ?_)
        · exact HS.out.pB
        clear hK K
        (try simp only [Act.put, List.setIfInBounds_toArray, List.set_cons_zero, List.set_cons_succ])
        refine wpAnyM_oneS 4 rfl (by kernel_rfl) (fun K hK => ?_)
        go_simp
        (refine (pick_any _ 1 _ (fun _ => (k : Int)) _ HL.out (by omega)).mono ?_); rintro e w6 ⟨rfl, hb6⟩; (rw [EN.out]); have HS2 := Lib.hid (HS.out.down hb6); clear HS; have HS := HS2; clear HS2 HL; (try (have HA2 := Lib.hid (And.intro (HA.out.1.below hb6) HA.out.2); clear HA; have HA := HA2; clear HA2)); (try (have HR2 := Lib.hid (And.intro (HR.out.1.below hb6) HR.out.2); clear HR; have HR := HR2; clear HR2)); clear hb6
        (try dsimp only)
        (try simp only [Act.put, List.setIfInBounds_toArray, List.set_cons_zero, List.set_cons_succ])
        clear hHeld
        refine hK.out _ _ ?_ (fun hHeld => ?_)
        · exact HS.out.pB
        clear hK K
        (try simp only [Act.put, List.setIfInBounds_toArray, List.set_cons_zero, List.set_cons_succ])
        refine wpAnyM_oneS 6 rfl (by kernel_rfl) (fun K hK => ?_)
        go_simp
        (refine (U5.out _ HS.out.fl.cell HS.out.fl.free).mono ?_); rintro e w7 ⟨rfl, hu7⟩; have HS2 := Lib.hid (HS.out.upd hbw hb4 hu7); clear HS; have HS := HS2; clear HS2; (try (have HA2 := Lib.hid (And.intro (HA.out.1.upd hu7 (by have := HA.out.2; simp; omega)) HA.out.2); clear HA; have HA := HA2; clear HA2)); (try (have HR2 := Lib.hid (And.intro (HR.out.1.upd hu7 (by have := HR.out.2; simp; omega)) HR.out.2); clear HR; have HR := HR2; clear HR2)); clear hu7
        (try dsimp only)
        (try simp only [Act.put, List.setIfInBounds_toArray, List.set_cons_zero, List.set_cons_succ])
        clear hHeld
        refine hK.out _ _ ?_ (fun hHeld => ?_)
        · exact HS.out.pB
        clear hK K
        (try simp only [Act.put, List.setIfInBounds_toArray, List.set_cons_zero, List.set_cons_succ])
        refine wpAnyM_take 7 (v := ?_) rfl (by kernel_rfl) (fun _ _ _ h => h) (Or.inl ⟨by rfl, ?_⟩) (by assumption) ?_
        rotate_left
        · (intro wx hSw; (try dsimp only at hSw); go_simp; (try with_reducible rfl))
        (try simp only [Act.put, List.setIfInBounds_toArray, List.set_cons_zero, List.set_cons_succ])
        refine wpAnyM_take 8 (v := ?_) rfl (by kernel_rfl) (fun _ _ _ h => h) (Or.inl ⟨by rfl, ?_⟩) (by assumption) ?_
        rotate_left
        · (intro wx hSw; (try dsimp only at hSw); go_simp; (try with_reducible rfl))
        (try simp only [Act.put, List.setIfInBounds_toArray, List.set_cons_zero, List.set_cons_succ])
        refine wpAnyM_take 9 (v := ?_) rfl (by kernel_rfl) (fun _ _ _ h => h) (Or.inl ⟨by rfl, ?_⟩) (by assumption) ?_
        rotate_left
        · (intro wx hSw; (try dsimp only at hSw); go_simp; (try with_reducible rfl))
        (try simp only [Act.put, List.setIfInBounds_toArray, List.set_cons_zero, List.set_cons_succ])
        refine wpAnyM_take 10 (v := ?_) rfl (by kernel_rfl) (fun _ _ _ h => h) (Or.inl ⟨by rfl, ?_⟩) (by assumption) ?_
        rotate_left
        · (intro wx hSw; (try dsimp only at hSw); go_simp; (try with_reducible rfl))
        (try simp only [Act.put, List.setIfInBounds_toArray, List.set_cons_zero, List.set_cons_succ])
        have HE := Lib.hid (on_end (F := Fq) (G := Gq) HS.out hbw hb4 HA.out HR.out); have HS2 := Lib.hid (HS.out.row (F := Fq) hbw hb4 HA.out); clear HS; have HS := HS2; clear HS2
        clear hHeld
        refine wpAnyM_doneS 13 rfl (by kernel_rfl) (by rfl) (run_store_row 29 (.tmp 9) (.tmp 55) rfl _ rfl rfl HA.out.1 icov) ?_ (fun hHeld => ?_)
        · exact HS.out.pB
        (try simp only [Act.put])
        have HS2 := Lib.hid HE.out.2.2.2; clear HS; have HS := HS2; clear HS2
        clear hHeld
        refine wpAnyM_doneS 14 rfl (by kernel_rfl) (by rfl) (run_store_row 31 (.tmp 10) (.tmp 56) rfl _ rfl rfl HE.out.1 irow) ?_ (fun hHeld => ?_)
        · exact HS.out.pB
        (try simp only [Act.put])
        refine wpAnyM_one 15 rfl (by kernel_rfl) (fun K hK => ?_)
        go_simp
        refine hK.out _ _ (.inl (by kernel_rfl)) (fun _ => ?_)
        clear hK K
        (try simp only [Act.put, List.setIfInBounds_toArray, List.set_cons_zero, List.set_cons_succ])
        refine wpAnyM_done (by kernel_rfl) ?_ _
        (go_wp2_with fail; go_meet; exact ⟨_, _, rfl, rfl, rfl, Lib.hid HE.out.2⟩)
  case rest =>
    obtain ⟨b9, b10, rfl, rfl, rfl, HB⟩ := hcut
    clear HS U5
    go_wp2_with fail
    go_loopw [12] (fun i wr => ∃ j : Nat, j ≤ 24 ∧ i = .int .i64 j ∧ Hid (Blk wr b9 29 300 Fq ∧ Blk wr b10 31 24 Gq ∧ OnS bc bp P w wr)) (fun i _ => 24 - (intOf i).toNat)
    case atStart => exact ⟨0, by omega, rfl, HB⟩
    case round =>
      obtain ⟨j, hj, rfl, R⟩ := hrel
      by_cases hlt : j < 24
      · have d1 : decide ((j : Int) < 24) = true := by simp; omega
        have m0 := R.out.1.cell (i := 276 + j) (by omega)
        have m1 := R.out.2.2.pB.cell (i := 276 + j) (by omega)
        have m2 := R.out.2.1.cell (i := j) (by omega)
        by_cases hjk : j = k
        · subst hjk
          have q1 : ((j : Int) != (j : Int)) = false := by simp
          go_upto_region 12 with fail
          go_quiet (fail)
          go_wp2_with fail
          go_roundw
          case rel => exact ⟨j + 1, by omega, by go_num, Lib.hid ⟨R.out.1, R.out.2.1, R.out.2.2.drews _⟩⟩
          case measure => simp [intOf]; omega
        · have hjk' : (j : Int) ≠ (k : Int) := by omega
          have q1 : ((j : Int) != (k : Int)) = true := by simp; omega
          have q1' : decide ((j : Int) = (k : Int)) = false := by simp; omega
          rw [E2.out j hlt, if_neg hjk] at m0
          rw [E3.out j hlt, if_neg hjk] at m2
          obtain ⟨DV, hDV⟩ : ∃ x, P (276 + j) = x := ⟨_, rfl⟩
          rw [hDV] at m0 m1
          have q2 : (DV != DV) = false := by simp
          have q3 : ((0 : Int) != 0) = false := by simp
          clear hDV
          go_upto_region 12 with fail
          go_quiet (fail)
          go_wp2_with fail
          go_roundw
          case rel => exact ⟨j + 1, by omega, by go_num, Lib.hid ⟨R.out.1, R.out.2.1, R.out.2.2.drews _⟩⟩
          case measure => simp [intOf]; omega
      · have hj24 : j = 24 := by omega
        subst hj24
        rw [show ((24 : Nat) : Int) = 24 from rfl]
        have m0 := R.out.1.cell (i := 276 + k) (by omega)
        have m2 := R.out.2.1.cell (i := k) (by omega)
        rw [E2.out k hk, if_pos rfl] at m0
        rw [E3.out k hk, if_pos rfl] at m2
        obtain ⟨MV, hMV⟩ : ∃ x, mdivV d r (d + r) = x := ⟨_, rfl⟩
        obtain ⟨GV, hGV⟩ : ∃ x, divV d (d + r) 30 = x := ⟨_, rfl⟩
        have e1 := E2.out k hk
        have e2 := E3.out k hk
        rw [if_pos rfl, hMV] at e1
        rw [if_pos rfl, hGV] at e2
        rw [hMV] at m0
        rw [hGV] at m2
        have EM := Lib.hid (And.intro e1 e2)
        have MC := Lib.hid (mdiv_any ⟨bc, 0, none⟩ false d r (d + r) wr.drew (by exact R.out.2.2.fl.cell) (by exact R.out.2.2.fl.free))
        rw [hMV, E6.out] at MC
        have DC := Lib.hid (fun (x : World) (k1 : x.cell? ⟨bc, 0, none⟩ = some (.bool false)) (k2 : x.frozen? ⟨bc, 0, none⟩ = false) => fdiv_any ⟨bc, 0, none⟩ false d (d + r) 30 x k1 k2)
        simp only [hGV, E7.out, Bool.or_false] at DC
        have w1 : IntKind.i64.wrap (d + r) = d + r := IntWalk.i64_in _ (by omega)
        have HW := Lib.hid w1
        clear e1 e2 hMV hGV
        go_upto_region 14 with fail
        refine wp_region_M (fun w' => w'.cell? ⟨b9, 276 + k, none⟩ = some (.int .i64 MV)) 12 (by kernel_rfl) ?_ (fun hHeld => ?_)
        · exact m0
        refine wpAnyM_take 0 (v := ?_) rfl (by kernel_rfl) (fun _ _ _ h => h) (Or.inl ⟨by rfl, ?_⟩) (by assumption) ?_
        rotate_left
        · (intro wx hSw; (try dsimp only at hSw); go_simp; (try with_reducible rfl))
        (try simp only [Act.put, List.setIfInBounds_toArray, List.set_cons_zero, List.set_cons_succ])
        refine wpAnyM_take 1 (v := ?_) rfl (by kernel_rfl) (fun _ _ _ h => h) (Or.inl ⟨by rfl, ?_⟩) (by assumption) ?_
        rotate_left
        · (intro wx hSw; (try dsimp only at hSw); go_simp; (try with_reducible rfl))
        (try simp only [Act.put, List.setIfInBounds_toArray, List.set_cons_zero, List.set_cons_succ])
        refine wpAnyM_take 2 (v := ?_) rfl (by kernel_rfl) (fun _ _ _ h => h) (Or.inl ⟨by rfl, ?_⟩) (by assumption) ?_
        rotate_left
        · (intro wx hSw; (try dsimp only at hSw); go_simp; (first | rw [if_pos (by omega)] | rw [if_pos ⟨by omega, by omega⟩] | skip); (try with_reducible rfl))
        (try simp only [Act.put, List.setIfInBounds_toArray, List.set_cons_zero, List.set_cons_succ])
        refine wpAnyM_take 3 (v := ?_) rfl (by kernel_rfl) (fun _ _ _ h => h) (Or.inl ⟨by rfl, ?_⟩) (by assumption) ?_
        rotate_left
        · (intro wx hSw; (try dsimp only at hSw); go_simp; (try with_reducible rfl))
        (try simp only [Act.put, List.setIfInBounds_toArray, List.set_cons_zero, List.set_cons_succ])
        refine wpAnyM_take 4 (v := ?_) rfl (by kernel_rfl) (fun _ _ _ h => h) (Or.inl ⟨by rfl, ?_⟩) (by assumption) ?_
        rotate_left
        · (intro wx hSw; (try dsimp only at hSw); go_simp; (try with_reducible rfl))
        (try simp only [Act.put, List.setIfInBounds_toArray, List.set_cons_zero, List.set_cons_succ])
        refine wpAnyM_take 5 (v := ?_) rfl (by kernel_rfl) (fun _ _ _ h => h) (Or.inl ⟨by rfl, ?_⟩) (by assumption) ?_
        rotate_left
        · (intro wx hSw; (try dsimp only at hSw); go_simp; (try with_reducible rfl))
        (try simp only [Act.put, List.setIfInBounds_toArray, List.set_cons_zero, List.set_cons_succ])
        refine wpAnyM_take 6 (v := ?_) rfl (by kernel_rfl) (fun _ _ _ h => h) (Or.inl ⟨by rfl, ?_⟩) (by assumption) ?_
        rotate_left
        · (intro wx hSw; (try dsimp only at hSw); go_simp; (try with_reducible rfl))
        (try simp only [Act.put, List.setIfInBounds_toArray, List.set_cons_zero, List.set_cons_succ])
        refine wpAnyM_take 7 (v := ?_) rfl (by kernel_rfl) (fun _ _ _ h => h) (Or.inl ⟨by rfl, ?_⟩) (by assumption) ?_
        rotate_left
        · (intro wx hSw; (try dsimp only at hSw); go_simp; (try with_reducible rfl))
        (try simp only [Act.put, List.setIfInBounds_toArray, List.set_cons_zero, List.set_cons_succ])
        refine wpAnyM_take 8 (v := ?_) rfl (by kernel_rfl) (fun _ _ _ h => h) (Or.inl ⟨by rfl, ?_⟩) (by assumption) ?_
        rotate_left
        · (intro wx hSw; (try dsimp only at hSw); go_simp; (try with_reducible rfl))
        (try simp only [Act.put, List.setIfInBounds_toArray, List.set_cons_zero, List.set_cons_succ])
        refine wpAnyM_take 9 (v := ?_) rfl (by kernel_rfl) (fun _ _ _ h => h) (Or.inl ⟨by rfl, ?_⟩) (by assumption) ?_
        rotate_left
        · (intro wx hSw; go_simp; (try rw [HW.out]); (try with_reducible rfl))
        (try simp only [Act.put, List.setIfInBounds_toArray, List.set_cons_zero, List.set_cons_succ])
        refine wpAnyM_oneS 10 rfl (by kernel_rfl) (fun K hK => ?_)
        go_simp
        (try rw [HW.out]); (refine MC.out.mono ?_); rintro e w6 ⟨rfl, hu6⟩; replace hu6 : Upd ⟨bc, 0, none⟩ false wr.drew w6 := hu6; have A6 := Lib.hid (Blk.upd (show Blk wr.drew b9 29 300 Fq from R.out.1) hu6 (by have := R.out.2.2.fl.ne R.out.1; simpa using this)); have G6 := Lib.hid (Blk.upd (show Blk wr.drew b10 31 24 Gq from R.out.2.1) hu6 (by have := R.out.2.2.fl.ne R.out.2.1; simpa using this)); have S6 := Lib.hid (R.out.2.2.drew.upd hbw hb4 hu6); have m0' := A6.out.cell (i := 276 + k) (by omega); (rw [EM.out.1] at m0'); clear hu6
        (try dsimp only)
        (try simp only [Act.put, List.setIfInBounds_toArray, List.set_cons_zero, List.set_cons_succ])
        clear hHeld
        refine hK.out _ _ ?_ (fun hHeld => ?_)
        · exact m0'
        clear hK K
        (try simp only [Act.put, List.setIfInBounds_toArray, List.set_cons_zero, List.set_cons_succ])
        refine wpAnyM_take 11 (v := ?_) rfl (by kernel_rfl) (fun _ _ _ h => h) (Or.inl ⟨by rfl, ?_⟩) (by assumption) ?_
        rotate_left
        · (intro wx hSw; go_simp; (try rw [Int.sub_self]); (try with_reducible rfl))
        (try simp only [Act.put, List.setIfInBounds_toArray, List.set_cons_zero, List.set_cons_succ])
        refine wpAnyM_one 12 rfl (by kernel_rfl) (fun K hK => ?_)
        go_simp
        refine hK.out _ _ (.inl (by kernel_rfl)) (fun _ => ?_)
        clear hK K
        (try simp only [Act.put, List.setIfInBounds_toArray, List.set_cons_zero, List.set_cons_succ])
        refine wpAnyM_done (by kernel_rfl) ?_ _
        (try clear hHeld)
        have m2 := G6.out.cell (i := k) (by omega)
        rw [EM.out.2] at m2
        clear m0 m0' R MC
        go_upto_region 15 with fail
        refine wp_region_M (fun w' => w'.cell? ⟨b10, k, none⟩ = some (.int .i64 GV)) 10 (by kernel_rfl) ?_ (fun hHeld => ?_)
        · exact m2
        refine wpAnyM_take 0 (v := ?_) rfl (by kernel_rfl) (fun _ _ _ h => h) (Or.inl ⟨by rfl, ?_⟩) (by assumption) ?_
        rotate_left
        · (intro wx hSw; (try dsimp only at hSw); go_simp; (try with_reducible rfl))
        (try simp only [Act.put, List.setIfInBounds_toArray, List.set_cons_zero, List.set_cons_succ])
        refine wpAnyM_take 1 (v := ?_) rfl (by kernel_rfl) (fun _ _ _ h => h) (Or.inl ⟨by rfl, ?_⟩) (by assumption) ?_
        rotate_left
        · (intro wx hSw; (try dsimp only at hSw); go_simp; (first | rw [if_pos (by omega)] | rw [if_pos ⟨by omega, by omega⟩] | skip); (try with_reducible rfl))
        (try simp only [Act.put, List.setIfInBounds_toArray, List.set_cons_zero, List.set_cons_succ])
        refine wpAnyM_take 2 (v := ?_) rfl (by kernel_rfl) (fun _ _ _ h => h) (Or.inl ⟨by rfl, ?_⟩) (by assumption) ?_
        rotate_left
        · (intro wx hSw; (try dsimp only at hSw); go_simp; (try with_reducible rfl))
        (try simp only [Act.put, List.setIfInBounds_toArray, List.set_cons_zero, List.set_cons_succ])
        refine wpAnyM_take 3 (v := ?_) rfl (by kernel_rfl) (fun _ _ _ h => h) (Or.inl ⟨by rfl, ?_⟩) (by assumption) ?_
        rotate_left
        · (intro wx hSw; (try dsimp only at hSw); go_simp; (try with_reducible rfl))
        (try simp only [Act.put, List.setIfInBounds_toArray, List.set_cons_zero, List.set_cons_succ])
        refine wpAnyM_take 4 (v := ?_) rfl (by kernel_rfl) (fun _ _ _ h => h) (Or.inl ⟨by rfl, ?_⟩) (by assumption) ?_
        rotate_left
        · (intro wx hSw; (try dsimp only at hSw); go_simp; (try with_reducible rfl))
        (try simp only [Act.put, List.setIfInBounds_toArray, List.set_cons_zero, List.set_cons_succ])
        refine wpAnyM_take 5 (v := ?_) rfl (by kernel_rfl) (fun _ _ _ h => h) (Or.inl ⟨by rfl, ?_⟩) (by assumption) ?_
        rotate_left
        · (intro wx hSw; (try dsimp only at hSw); go_simp; (try with_reducible rfl))
        (try simp only [Act.put, List.setIfInBounds_toArray, List.set_cons_zero, List.set_cons_succ])
        refine wpAnyM_take 6 (v := ?_) rfl (by kernel_rfl) (fun _ _ _ h => h) (Or.inl ⟨by rfl, ?_⟩) (by assumption) ?_
        rotate_left
        · (intro wx hSw; (try dsimp only at hSw); go_simp; (try with_reducible rfl))
        (try simp only [Act.put, List.setIfInBounds_toArray, List.set_cons_zero, List.set_cons_succ])
        refine wpAnyM_take 7 (v := ?_) rfl (by kernel_rfl) (fun _ _ _ h => h) (Or.inl ⟨by rfl, ?_⟩) (by assumption) ?_
        rotate_left
        · (intro wx hSw; go_simp; (try rw [HW.out]); (try with_reducible rfl))
        (try simp only [Act.put, List.setIfInBounds_toArray, List.set_cons_zero, List.set_cons_succ])
        refine wpAnyM_oneS 8 rfl (by kernel_rfl) (fun K hK => ?_)
        go_simp
        (try rw [HW.out]); (refine (DC.out w6.drew (by exact S6.out.fl.cell) (by exact S6.out.fl.free)).mono ?_); rintro e w7 ⟨rfl, hu7⟩; have A7 := Lib.hid (Blk.upd (show Blk w6.drew b9 29 300 Fq from A6.out) hu7 (by have := S6.out.fl.ne A6.out; simpa using this)); have G7 := Lib.hid (Blk.upd (show Blk w6.drew b10 31 24 Gq from G6.out) hu7 (by have := S6.out.fl.ne G6.out; simpa using this)); have S7 := Lib.hid (S6.out.drew.upd hbw hb4 hu7); have m2' := G7.out.cell (i := k) (by omega); (rw [EM.out.2] at m2'); clear hu7
        (try dsimp only)
        (try simp only [Act.put, List.setIfInBounds_toArray, List.set_cons_zero, List.set_cons_succ])
        clear hHeld
        refine hK.out _ _ ?_ (fun hHeld => ?_)
        · exact m2'
        clear hK K
        (try simp only [Act.put, List.setIfInBounds_toArray, List.set_cons_zero, List.set_cons_succ])
        refine wpAnyM_take 9 (v := ?_) rfl (by kernel_rfl) (fun _ _ _ h => h) (Or.inl ⟨by rfl, ?_⟩) (by assumption) ?_
        rotate_left
        · (intro wx hSw; go_simp; (try rw [Int.sub_self]); (try with_reducible rfl))
        (try simp only [Act.put, List.setIfInBounds_toArray, List.set_cons_zero, List.set_cons_succ])
        refine wpAnyM_one 10 rfl (by kernel_rfl) (fun K hK => ?_)
        go_simp
        refine hK.out _ _ (.inl (by kernel_rfl)) (fun _ => ?_)
        clear hK K
        (try simp only [Act.put, List.setIfInBounds_toArray, List.set_cons_zero, List.set_cons_succ])
        refine wpAnyM_done (by kernel_rfl) ?_ _
        (try clear hHeld)
        clear m2 m2' G6 S6 A6 DC
        have L9 := A7.out
        have L8 := S7.out.pB
        have c9 := S7.out.fl.cell
        go_upto_region 16 with fail
        refine wp_region_lit ?_
        refine wpList_val (v := ?_) rfl ?_ ?_
        rotate_left
        · (go_simp; (try (first | with_reducible rfl | (constructor <;> with_reducible rfl))))
        (try simp only [Act.put, List.setIfInBounds_toArray, List.set_cons_zero, List.set_cons_succ])
        refine wpList_val (v := ?_) rfl ?_ ?_
        rotate_left
        · (go_simp; (try (first | with_reducible rfl | (constructor <;> with_reducible rfl))))
        (try simp only [Act.put, List.setIfInBounds_toArray, List.set_cons_zero, List.set_cons_succ])
        refine wpList_val (v := ?_) rfl ?_ ?_
        rotate_left
        · (go_simp; (try (first | with_reducible rfl | (constructor <;> with_reducible rfl))))
        (try simp only [Act.put, List.setIfInBounds_toArray, List.set_cons_zero, List.set_cons_succ])
        refine wpList_val (v := ?_) rfl ?_ ?_
        rotate_left
        · (go_simp; (try rw [HW.out]); (try with_reducible rfl))
        (try simp only [Act.put, List.setIfInBounds_toArray, List.set_cons_zero, List.set_cons_succ])
        refine wpList_val (v := ?_) rfl ?_ ?_
        rotate_left
        · (go_simp; (try (first | with_reducible rfl | (constructor <;> with_reducible rfl))))
        (try simp only [Act.put, List.setIfInBounds_toArray, List.set_cons_zero, List.set_cons_succ])
        refine wpList_val (v := ?_) rfl ?_ ?_
        rotate_left
        · (go_simp; (try (first | with_reducible rfl | (constructor <;> with_reducible rfl))))
        (try simp only [Act.put, List.setIfInBounds_toArray, List.set_cons_zero, List.set_cons_succ])
        first | (refine wpList_val (v := ?_) (by rfl) ?_ ?_; rotate_left; focus ((go_simp; (try (first | with_reducible rfl | (constructor <;> with_reducible rfl)))))) | refine wpList_skip (by rfl) ?_
        (try simp only [Act.put, List.setIfInBounds_toArray, List.set_cons_zero, List.set_cons_succ])
        first | (refine wpList_val (v := ?_) (by rfl) ?_ ?_; rotate_left; focus ((go_simp; (try (first | with_reducible rfl | (constructor <;> with_reducible rfl)))))) | refine wpList_skip (by rfl) ?_
        (try simp only [Act.put, List.setIfInBounds_toArray, List.set_cons_zero, List.set_cons_succ])
        refine wpList_val (v := ?_) rfl ?_ ?_
        rotate_left
        · (go_simp; (try (first | with_reducible rfl | (constructor <;> with_reducible rfl))))
        (try simp only [Act.put, List.setIfInBounds_toArray, List.set_cons_zero, List.set_cons_succ])
        refine wpList_val (v := ?_) rfl ?_ ?_
        rotate_left
        · (go_simp; (try (first | with_reducible rfl | (constructor <;> with_reducible rfl))))
        (try simp only [Act.put, List.setIfInBounds_toArray, List.set_cons_zero, List.set_cons_succ])
        first | (refine wpList_val (v := ?_) (by rfl) ?_ ?_; rotate_left; focus ((go_simp; (try (first | with_reducible rfl | (constructor <;> with_reducible rfl)))))) | refine wpList_skip (by rfl) ?_
        (try simp only [Act.put, List.setIfInBounds_toArray, List.set_cons_zero, List.set_cons_succ])
        first | (refine wpList_val (v := ?_) (by rfl) ?_ ?_; rotate_left; focus ((go_simp; (try (first | with_reducible rfl | (constructor <;> with_reducible rfl)))))) | refine wpList_skip (by rfl) ?_
        (try simp only [Act.put, List.setIfInBounds_toArray, List.set_cons_zero, List.set_cons_succ])
        refine wpList_val (v := ?_) rfl ?_ ?_
        rotate_left
        · (go_simp; (try (first | with_reducible rfl | (constructor <;> with_reducible rfl))))
        (try simp only [Act.put, List.setIfInBounds_toArray, List.set_cons_zero, List.set_cons_succ])
        refine wpList_val (v := ?_) rfl ?_ ?_
        rotate_left
        · (go_simp; (try (first | with_reducible rfl | (constructor <;> with_reducible rfl))))
        (try simp only [Act.put, List.setIfInBounds_toArray, List.set_cons_zero, List.set_cons_succ])
        first | (refine wpList_val (v := ?_) (by rfl) ?_ ?_; rotate_left; focus ((go_simp; (try (first | with_reducible rfl | (constructor <;> with_reducible rfl)))))) | refine wpList_skip (by rfl) ?_
        (try simp only [Act.put, List.setIfInBounds_toArray, List.set_cons_zero, List.set_cons_succ])
        first | (refine wpList_val (v := ?_) (by rfl) ?_ ?_; rotate_left; focus ((go_simp; (try (first | with_reducible rfl | (constructor <;> with_reducible rfl)))))) | refine wpList_skip (by rfl) ?_
        (try simp only [Act.put, List.setIfInBounds_toArray, List.set_cons_zero, List.set_cons_succ])
        refine wpList_val (v := ?_) rfl ?_ ?_
        rotate_left
        · (go_simp; (try (first | with_reducible rfl | (constructor <;> with_reducible rfl))))
        (try simp only [Act.put, List.setIfInBounds_toArray, List.set_cons_zero, List.set_cons_succ])
        refine wpList_val (v := ?_) rfl ?_ ?_
        rotate_left
        · (go_simp; (try (first | with_reducible rfl | (constructor <;> with_reducible rfl))))
        (try simp only [Act.put, List.setIfInBounds_toArray, List.set_cons_zero, List.set_cons_succ])
        first | (refine wpList_val (v := ?_) (by rfl) ?_ ?_; rotate_left; focus ((go_simp; (try (first | with_reducible rfl | (constructor <;> with_reducible rfl)))))) | refine wpList_skip (by rfl) ?_
        (try simp only [Act.put, List.setIfInBounds_toArray, List.set_cons_zero, List.set_cons_succ])
        first | (refine wpList_val (v := ?_) (by rfl) ?_ ?_; rotate_left; focus ((go_simp; (try (first | with_reducible rfl | (constructor <;> with_reducible rfl)))))) | refine wpList_skip (by rfl) ?_
        (try simp only [Act.put, List.setIfInBounds_toArray, List.set_cons_zero, List.set_cons_succ])
        refine wpList_val (v := ?_) rfl ?_ ?_
        rotate_left
        · (go_simp; (try (first | with_reducible rfl | (constructor <;> with_reducible rfl))))
        (try simp only [Act.put, List.setIfInBounds_toArray, List.set_cons_zero, List.set_cons_succ])
        refine wpList_val (v := ?_) rfl ?_ ?_
        rotate_left
        · (go_simp; (try (first | with_reducible rfl | (constructor <;> with_reducible rfl))))
        (try simp only [Act.put, List.setIfInBounds_toArray, List.set_cons_zero, List.set_cons_succ])
        first | (refine wpList_val (v := ?_) (by rfl) ?_ ?_; rotate_left; focus ((go_simp; (try (first | with_reducible rfl | (constructor <;> with_reducible rfl)))))) | refine wpList_skip (by rfl) ?_
        (try simp only [Act.put, List.setIfInBounds_toArray, List.set_cons_zero, List.set_cons_succ])
        first | (refine wpList_val (v := ?_) (by rfl) ?_ ?_; rotate_left; focus (refine Eq.trans (run_load_sub 26 (.tmp 126) (by rfl) b9 0 276 (by rfl) L9 (by omega) _ Try.underlying26 rfl iu276) ?_; with_reducible rfl)) | refine wpList_skip (by rfl) ?_
        (try simp only [Act.put, List.setIfInBounds_toArray, List.set_cons_zero, List.set_cons_succ])
        first | (refine wpList_val (v := ?_) (by rfl) ?_ ?_; rotate_left; focus ((go_simp; (try (first | with_reducible rfl | (constructor <;> with_reducible rfl)))))) | refine wpList_skip (by rfl) ?_
        (try simp only [Act.put, List.setIfInBounds_toArray, List.set_cons_zero, List.set_cons_succ])
        first | (refine wpList_val (v := ?_) (by rfl) ?_ ?_; rotate_left; focus (refine Eq.trans (run_load_sub 26 (.tmp 128) (by rfl) bp 0 276 (by rfl) L8 (by omega) _ Try.underlying26 rfl iu276) ?_; with_reducible rfl)) | refine wpList_skip (by rfl) ?_
        (try simp only [Act.put, List.setIfInBounds_toArray, List.set_cons_zero, List.set_cons_succ])
        first | (refine wpList_val (v := ?_) (by rfl) ?_ ?_; rotate_left; focus (refine Eq.trans (run_op_eqlU (.tmp 127) (.tmp 129) (by rfl) (by rfl) (by rfl) hU.out) ?_; with_reducible rfl)) | refine wpList_skip (by rfl) ?_
        (try simp only [Act.put, List.setIfInBounds_toArray, List.set_cons_zero, List.set_cons_succ])
        refine wpList_val (v := ?_) rfl ?_ ?_
        rotate_left
        · (go_simp; (try (first | with_reducible rfl | (constructor <;> with_reducible rfl))))
        (try simp only [Act.put, List.setIfInBounds_toArray, List.set_cons_zero, List.set_cons_succ])
        refine wpList_val (v := ?_) rfl ?_ ?_
        rotate_left
        · (go_simp; (try (first | with_reducible rfl | (constructor <;> with_reducible rfl))))
        (try simp only [Act.put, List.setIfInBounds_toArray, List.set_cons_zero, List.set_cons_succ])
        first | (refine wpList_val (v := ?_) (by rfl) ?_ ?_; rotate_left; focus ((go_simp; (try (first | with_reducible rfl | (constructor <;> with_reducible rfl)))))) | refine wpList_skip (by rfl) ?_
        (try simp only [Act.put, List.setIfInBounds_toArray, List.set_cons_zero, List.set_cons_succ])
        first | (refine wpList_val (v := ?_) (by rfl) ?_ ?_; rotate_left; focus ((go_simp; (try (first | with_reducible rfl | (constructor <;> with_reducible rfl)))))) | refine wpList_skip (by rfl) ?_
        (try simp only [Act.put, List.setIfInBounds_toArray, List.set_cons_zero, List.set_cons_succ])
        first | (refine wpList_val (v := ?_) (by rfl) ?_ ?_; rotate_left; focus ((go_simp; (try (first | with_reducible rfl | (constructor <;> with_reducible rfl)))))) | refine wpList_skip (by rfl) ?_
        (try simp only [Act.put, List.setIfInBounds_toArray, List.set_cons_zero, List.set_cons_succ])
        first | (refine wpList_val (v := ?_) (by rfl) ?_ ?_; rotate_left; focus ((go_simp; (try (first | with_reducible rfl | (constructor <;> with_reducible rfl)))))) | refine wpList_skip (by rfl) ?_
        (try simp only [Act.put, List.setIfInBounds_toArray, List.set_cons_zero, List.set_cons_succ])
        first | (refine wpList_val (v := ?_) (by rfl) ?_ ?_; rotate_left; focus ((go_simp; (try (first | with_reducible rfl | (constructor <;> with_reducible rfl)))))) | refine wpList_skip (by rfl) ?_
        (try simp only [Act.put, List.setIfInBounds_toArray, List.set_cons_zero, List.set_cons_succ])
        refine wpList_val (v := ?_) rfl ?_ ?_
        rotate_left
        · (go_simp; (try (first | with_reducible rfl | (constructor <;> with_reducible rfl))))
        (try simp only [Act.put, List.setIfInBounds_toArray, List.set_cons_zero, List.set_cons_succ])
        refine wpList_val (v := ?_) rfl ?_ ?_
        rotate_left
        · (go_simp; (try (first | with_reducible rfl | (constructor <;> with_reducible rfl))))
        (try simp only [Act.put, List.setIfInBounds_toArray, List.set_cons_zero, List.set_cons_succ])
        refine wpList_nil ?_
        go_wp2_with fail
        go_ret
        exact ⟨rfl, S7.out.below⟩
theorem one_walk (k d r : Int) (w : World) : Calls Try.prog 3 #[.int .i64 k, .int .i64 d, .int .i64 r] w fun e w' => e = .returned (.bool true) ∧ Below w.heap.size w w' := by
  by_cases h : k < 0 ∨ 23 < k ∨ d < 1048576 ∨ 36028797018963968 < d ∨ r < 1048576 ∨ 36028797018963968 < r
  · exact one_noop k d r w h
  · have hk : k = ((k.toNat : Nat) : Int) := by omega
    rw [hk]
    exact one_yes k.toNat d r w (by omega) (by omega) (by omega)
end Go.Proofs.Ytglpbcionohipaa
