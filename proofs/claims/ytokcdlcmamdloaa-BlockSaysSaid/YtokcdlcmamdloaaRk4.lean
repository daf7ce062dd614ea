/- Contract of the reference's Forget. -/
import Derived.Test.YtokcdlcmamdloaaRk3
import Derived.Test.YtokcdlcmamdloaaQ06
namespace Go.Proofs.Ytokcdlcmamdloaa
open Go.RowKit
set_option maxRecDepth 100000
set_option maxHeartbeats 8000000 in
theorem rforget_any (c : Addr) (h : Bool) (f : Nat → Int) (p : Option Addr) (n cp : Nat) (L : Nat → Int) (w : World) (hc : w.cell? c = some (.bool h)) (hf : w.frozen? c = false) (hL : Slc w p n L) (hn : n ≤ 1000) :
    Calls Try.prog 23 #[.pointer (some c), .agg (arrv 300 f), .slice p n cp] w fun e w' =>
      e = .returned (.agg (arrv 300 (stepF f (fgF L n) (fgQ f L n)))) ∧ Upd c (h || orB (fgB f L) n || stepH f (fgF L n) (fgQ f L n)) w w' := by
  have hcb := World.block_lt_of_cell? w c hc
  have HC := Lib.hid hc
  have HF := Lib.hid hf
  have HL := Lib.hid hL
  clear hc hf hL
  go_enter Try.func23, Try.ntmps23
  obtain ⟨W0, hW0⟩ : ∃ x, (w.alloc (.cells (arrv 300 f) 25)).alloc (.cells Try.zeroCells25 25) = x := ⟨_, rfl⟩
  have P0 : Blk W0 w.heap.size 25 300 f := by rw [← hW0]; exact (Blk.new w _ _ _).alloc _
  have Z0 : Blk W0 (w.heap.size + 1) 25 300 (fun _ => 0) := by rw [← hW0, zcov]; exact Blk.new1 w _ _ _ _
  have U0 : Upd c h w W0 := by rw [← hW0]; exact Upd.then (Upd.refl HC.out) (by (repeat (first | with_reducible exact Below.refl _ _ | with_reducible apply Below.drew | (with_reducible refine below_drewN ?_ _) | (with_reducible refine Below.alloc ?_ (by (try simp) <;> omega) _) | (with_reducible refine Below.setCell ?_ (by (try simp) <;> omega) _))))
  have hz0 := Z0.lt
  go_upto_region 1 with fail
  (try rw [hW0])
  go_upto_region 2 with (first | (go_at_call 55; (refine (runit_any _).mono ?_); rintro e w1 ⟨rfl, hb1⟩; have P1 := Lib.hid (P0.below hb1); have Z1 := Lib.hid (Z0.below hb1); have U1 := Lib.hid (U0.then hb1); have R1 : Blk (w1.alloc (.cells Try.zeroCells26 26)) w1.heap.size 26 576 (fun _ => 0) := (by rw [zmat2]; exact Blk.new _ _ _ _); clear hb1) | (refine wpList_store_row rfl 26 _ _ rfl (w1.heap.size) _ rfl rfl 26 _ (R1) (ig24.trans (by rw [arrv_size])) (by rw [arrv_size, arrv_size]) (oneCell_arrv _ _) ?_))
  obtain ⟨w2, hw2⟩ : ∃ x, x = ((w1.alloc (.cells Try.zeroCells26 26)).setRow w1.heap.size (arrv 576 oneF)) := ⟨_, rfl⟩
  rw [← hw2]
  obtain ⟨M2, MB⟩ := Blk.made zmat2 oneF hw2
  obtain ⟨bf, hbf⟩ : ∃ x, w1.heap.size = x := ⟨_, rfl⟩
  have h1 : w.heap.size + 1 < bf := by rw [← hbf]; exact Z1.out.lt
  rw [hbf] at M2 ⊢
  have A2 := Lib.hid (And.intro (U1.out.then MB) (And.intro (P1.out.below MB) (And.intro (Z1.out.below MB) M2)))
  clear P0 Z0 U0 hz0 R1 hw2 M2 MB P1 Z1 U1 hW0 hbf
  have RE : Blk (w2.alloc (.cells #[.int .i64 0, .int .i64 0, .int .i64 0, .int .i64 0, .int .i64 0, .int .i64 0, .int .i64 0, .int .i64 0, .int .i64 0, .int .i64 0, .int .i64 0, .int .i64 0, .int .i64 0, .int .i64 0, .int .i64 0, .int .i64 0, .int .i64 0, .int .i64 0, .int .i64 0, .int .i64 0, .int .i64 0, .int .i64 0, .int .i64 0, .int .i64 0] 23)) w2.heap.size 23 24 (fun _ => 0) := by rw [zcol]; exact Blk.new _ _ _ _
  refine wp_region_lit ?_
  refine wpList_val (v := ?_) rfl ?_ ?_
  rotate_left
  · (go_simp; rw [zcol])
  (try simp only [Act.put, List.setIfInBounds_toArray, List.set_cons_zero, List.set_cons_succ])
  refine wpList_act (v := ?_) (w' := ?_) rfl ?_ ?_
  rotate_left 2
  · (go_simp; (try (first | with_reducible rfl | (constructor <;> with_reducible rfl))))
  (try simp only [Act.put, List.setIfInBounds_toArray, List.set_cons_zero, List.set_cons_succ])
  refine wpList_done (w' := ?_) rfl ?_ ?_
  rotate_left
  · refine Eq.trans (run_store_row 23 (.tmp 8) (.tmp 12) (by rfl) (w2.heap.size) (by rfl) (by rfl) (RE) (icol.trans rfl)) ?_; with_reducible rfl
  (try simp only [Act.put, List.setIfInBounds_toArray, List.set_cons_zero, List.set_cons_succ])
  refine wpList_nil ?_
  obtain ⟨bq, hbq⟩ : ∃ x, w2.heap.size = x := ⟨_, rfl⟩
  have h2 : bf < bq := by rw [← hbq]; exact A2.out.2.2.2.lt
  rw [hbq] at RE ⊢
  have S3 : Hid (RkR c (h || orB (fgB f L) 0) bf bq f (fgF L 0) (fgQ f L 0) w ((w2.alloc (.cells #[.int .i64 0, .int .i64 0, .int .i64 0, .int .i64 0, .int .i64 0, .int .i64 0, .int .i64 0, .int .i64 0, .int .i64 0, .int .i64 0, .int .i64 0, .int .i64 0, .int .i64 0, .int .i64 0, .int .i64 0, .int .i64 0, .int .i64 0, .int .i64 0, .int .i64 0, .int .i64 0, .int .i64 0, .int .i64 0, .int .i64 0, .int .i64 0] 23)).setRow bq (arrv 24 (fun _ => 0)))) := by
    obtain ⟨a1, a2, a3, a4⟩ := A2.out
    rw [show (h || orB (fgB f L) 0) = h from by simp [orB]]
    exact Lib.hid ⟨(a1.alloc _).then' (below_row (Below.refl _ _) (by omega) _), (a2.alloc _).setRow_other _ (by omega), (a3.alloc _).setRow_other _ (by omega), (a4.alloc _).setRow_other _ (by omega), RE.setRow _⟩
  generalize (w2.alloc (.cells #[.int .i64 0, .int .i64 0, .int .i64 0, .int .i64 0, .int .i64 0, .int .i64 0, .int .i64 0, .int .i64 0, .int .i64 0, .int .i64 0, .int .i64 0, .int .i64 0, .int .i64 0, .int .i64 0, .int .i64 0, .int .i64 0, .int .i64 0, .int .i64 0, .int .i64 0, .int .i64 0, .int .i64 0, .int .i64 0, .int .i64 0, .int .i64 0] 23)).setRow bq (arrv 24 (fun _ => 0)) = W3 at *
  clear RE hbq A2
  go_wp2_with fail
  go_loopw [9] (fun i wr => ∃ k : Nat, k ≤ n ∧ i = .int .i64 k ∧ Hid (RkR c (h || orB (fgB f L) k) bf bq f (fgF L k) (fgQ f L k) w wr)) (fun i _ => n - (intOf i).toNat)
  case atStart => exact ⟨0, by omega, rfl, S3⟩
  case round =>
    obtain ⟨k, hk, rfl, R⟩ := hrel
    clear S3
    by_cases hkn : k < n
    · have d1 : decide ((k : Int) < (n : Int)) = true := by simp; omega
      obtain ⟨pb, po, rfl, hcell⟩ := HL.out k hkn
      have hne : (⟨pb, po + k, none⟩ : Addr) ≠ c := fun e => by rw [e, HC.out] at hcell; cases hcell
      have hpl := World.block_lt_of_cell? _ _ hcell
      have hcell' : wr.cell? ⟨pb, po + k, none⟩ = some (.int .i64 (L k)) := (R.out.upd.cell hpl (Ne.symm hne)).trans hcell
      obtain ⟨x, hx⟩ : ∃ x, L k = x := ⟨_, rfl⟩
      rw [hx] at hcell'
      by_cases hin : 0 ≤ x ∧ x < 24
      · obtain ⟨i, rfl⟩ : ∃ i : Nat, x = (i : Int) := ⟨x.toNat, by omega⟩
        have hi : i < 24 := by omega
        have q1 : decide ((0 : Int) ≤ (i : Int) ∧ (i : Int) < 24) = true := by simp; omega
        have p1 : decide ((0 : Int) ≤ (i : Int)) = true := by simp
        have p2 : decide ((i : Int) < 24) = true := by simp; omega
        have m0 := R.out.fB.cell (i := i * 24 + i) (by omega)
        have k0 : (0 : Int) ≤ (i : Int) := Int.natCast_nonneg _
        have k1 : (i : Int) < 24 := by omega
        by_cases hz : fgF L k (i * 24 + i) = 0
        · rw [hz] at m0
          have q2 : ((0 : Int) != 0) = false := by simp
          have qI : ¬ fgI (fgF L k) (L k) = true := by unfold fgI; rw [hx, Int.toNat_natCast, hz]; simp
          have EK := Lib.hid qI
          clear hcell hx hpl hne qI q1
          go_wp2_with fail
          go_roundw
          case rel =>
            refine ⟨k + 1, by omega, by go_num, ?_⟩
            rw [show (h || orB (fgB f L) (k + 1)) = (h || orB (fgB f L) k) from by simp only [orB, fgB]; rw [if_neg EK.out, Bool.or_false], show fgF L (k + 1) = fgF L k from by simp only [fgF]; rw [if_neg EK.out], show fgQ f L (k + 1) = fgQ f L k from by simp only [fgQ]; rw [if_neg EK.out]]
            exact R
          case measure => simp [intOf]; omega
        · have qI : fgI (fgF L k) (L k) = true := by unfold fgI; rw [hx, Int.toNat_natCast, q1]; simp [hz]
          obtain ⟨FV, hFV⟩ : ∃ y, fgF L k (i * 24 + i) = y := ⟨_, rfl⟩
          rw [hFV] at m0 hz
          have q2 : (FV != 0) = true := by simpa using hz
          obtain ⟨HK, hHK⟩ : ∃ y, (h || orB (fgB f L) k) = y := ⟨_, rfl⟩
          obtain ⟨AV, hAV⟩ : ∃ y, atV f i i = y := ⟨_, rfl⟩
          obtain ⟨AH, hAH⟩ : ∃ y, atH f i i = y := ⟨_, rfl⟩
          rw [hHK] at R
          have qn : (L k).toNat = i := by rw [hx]; simp
          have EK := Lib.hid (And.intro hHK (And.intro qI (And.intro qn (And.intro hAV hAH))))
          have n1 := R.out.fB.free (i * 24 + i)
          have R8 := Lib.hid (R.out.setF h1 h2 (i * 24 + i) 0)
          clear hHK qI qn hcell hx q1 hpl hne hFV R
          go_upto_region 9 with fail
          generalize wr.setCell ⟨bf, i * 24 + i, none⟩ (.int .i64 0) = W8 at *
          clear m0 n1 hcell' q2 hz p1 p2
          have AC := Lib.hid (rat_any c HK f w.heap.size i W8.drew (by exact R8.out.upd.cellc HC.out) (by exact (R8.out.upd.frozen hcb).trans HF.out) hi (by exact R8.out.pB))
          rw [hAV, hAH] at AC
          have VC := Lib.hid (fun (x : World) k1 k2 => rclamp_any c (HK || AH) AV 1 72057594037927936 x k1 k2)
          rw [show clampV AV 1 72057594037927936 = varV AV from rfl, show clampH AV 1 72057594037927936 = varH AV from rfl] at VC
          obtain ⟨VV, hVV⟩ : ∃ y, varV AV = y := ⟨_, rfl⟩
          obtain ⟨VH, hVH⟩ : ∃ y, varH AV = y := ⟨_, rfl⟩
          rw [hVV, hVH] at VC
          have EV := Lib.hid (And.intro hVV hVH)
          clear hVV hVH hAV hAH
          refine wp_region_M (fun _ => True) 10 (by kernel_rfl) ?_ (fun hHeld => ?_)
          · trivial
          refine wpAnyM_take 0 (v := ?_) rfl (by kernel_rfl) (fun _ _ _ h => h) (Or.inl ⟨by rfl, ?_⟩) (by assumption) ?_
          rotate_left
          · (intro wx hSw; (try dsimp only at hSw); go_simp; (try with_reducible rfl))
          (try simp only [Act.put, List.setIfInBounds_toArray, List.set_cons_zero, List.set_cons_succ])
          refine wpAnyM_take 1 (v := ?_) rfl (by kernel_rfl) (fun _ _ _ h => h) (Or.inl ⟨by rfl, ?_⟩) (by assumption) ?_
          rotate_left
          · (intro wx hSw; (try dsimp only at hSw); go_simp; (try with_reducible rfl))
          (try simp only [Act.put, List.setIfInBounds_toArray, List.set_cons_zero, List.set_cons_succ])
          refine wpAnyM_take 2 (v := ?_) rfl (by kernel_rfl) (fun _ _ _ h => h) (Or.inl ⟨by rfl, ?_⟩) (by assumption) ?_
          rotate_left
          · (intro wx hSw; (try dsimp only at hSw); go_simp; (try with_reducible rfl))
          (try simp only [Act.put, List.setIfInBounds_toArray, List.set_cons_zero, List.set_cons_succ])
          refine wpAnyM_take 3 (v := ?_) rfl (by kernel_rfl) (fun _ _ _ h => h) (Or.inl ⟨by rfl, ?_⟩) (by assumption) ?_
          rotate_left
          · (intro wx hSw; (try dsimp only at hSw); go_simp; (try with_reducible rfl))
          (try simp only [Act.put, List.setIfInBounds_toArray, List.set_cons_zero, List.set_cons_succ])
          refine wpAnyM_take 4 (v := ?_) rfl (by kernel_rfl) (fun _ _ _ h => h) (Or.inl ⟨by rfl, ?_⟩) (by assumption) ?_
          rotate_left
          · (intro wx hSw; (try dsimp only at hSw); go_simp; (try with_reducible rfl))
          (try simp only [Act.put, List.setIfInBounds_toArray, List.set_cons_zero, List.set_cons_succ])
          refine wpAnyM_take 5 (v := ?_) rfl (by kernel_rfl) (fun _ _ _ h => h) (Or.inl ⟨by rfl, ?_⟩) (by assumption) ?_
          rotate_left
          · (intro wx hSw; (try dsimp only at hSw); go_simp; (try with_reducible rfl))
          (try simp only [Act.put, List.setIfInBounds_toArray, List.set_cons_zero, List.set_cons_succ])
          refine wpAnyM_take 6 (v := ?_) rfl (by kernel_rfl) (fun _ _ _ h => h) (Or.inl ⟨by rfl, ?_⟩) (by assumption) ?_
          rotate_left
          · (intro wx hSw; (try dsimp only at hSw); go_simp; (try with_reducible rfl))
          (try simp only [Act.put, List.setIfInBounds_toArray, List.set_cons_zero, List.set_cons_succ])
          refine wpAnyM_oneS 7 rfl (by kernel_rfl) (fun K hK => ?_)
          go_simp
          (refine AC.out.mono ?_); rintro e w5 ⟨rfl, hu5⟩; have R5 := Lib.hid (R8.out.drew.upd' hcb h1 h2 hu5); clear hu5
          (try dsimp only)
          (try simp only [Act.put, List.setIfInBounds_toArray, List.set_cons_zero, List.set_cons_succ])
          clear hHeld
          refine hK.out _ _ ?_ (fun hHeld => ?_)
          · trivial
          clear hK K
          (try simp only [Act.put, List.setIfInBounds_toArray, List.set_cons_zero, List.set_cons_succ])
          refine wpAnyM_oneS 8 rfl (by kernel_rfl) (fun K hK => ?_)
          go_simp
          (refine (VC.out w5 (R5.out.upd.cellc HC.out) ((R5.out.upd.frozen hcb).trans HF.out)).mono ?_); rintro e w6 ⟨rfl, hw6⟩; have R9 := Lib.hid (R5.out.upd' hcb h1 h2 ((Upd.set c (HK || AH || VH) w5).then (by rw [hw6]; exact Below.refl _ _))); have n2 := R9.out.qB.cell (i := i) hi; have n3 := R9.out.qB.free i; clear hw6
          (try dsimp only)
          (try simp only [Act.put, List.setIfInBounds_toArray, List.set_cons_zero, List.set_cons_succ])
          clear hHeld
          refine hK.out _ _ ?_ (fun hHeld => ?_)
          · trivial
          clear hK K
          (try simp only [Act.put, List.setIfInBounds_toArray, List.set_cons_zero, List.set_cons_succ])
          refine wpAnyM_take 9 (v := ?_) rfl (by kernel_rfl) (fun _ _ _ h => h) (Or.inl ⟨by rfl, ?_⟩) (by assumption) ?_
          rotate_left
          · (intro wx hSw; (try dsimp only at hSw); go_simp; (first | rw [if_pos (by omega)] | rw [if_pos ⟨by omega, by omega⟩] | skip); (try with_reducible rfl))
          (try simp only [Act.put, List.setIfInBounds_toArray, List.set_cons_zero, List.set_cons_succ])
          refine wpAnyM_one 10 rfl (by kernel_rfl) (fun K hK => ?_)
          go_simp
          refine hK.out _ _ (.inl (by kernel_rfl)) (fun _ => ?_)
          clear hK K
          (try simp only [Act.put, List.setIfInBounds_toArray, List.set_cons_zero, List.set_cons_succ])
          refine wpAnyM_done (by kernel_rfl) ?_ _
          have RA := Lib.hid (R9.out.setQ h1 h2 i VV)
          generalize w6.setCell ⟨bq, i, none⟩ (.int .i64 VV) = WA at *
          clear n2 n3 R9 R8 R5 VC AC
          (try clear hHeld)
          go_wp2_with fail
          go_roundw
          case rel =>
            obtain ⟨e1, e2, e3, e4, e5⟩ := EK.out
            refine ⟨k + 1, by omega, by go_num, ?_⟩
            rw [show (h || orB (fgB f L) (k + 1)) = (HK || AH || VH) from by simp only [orB, fgB]; rw [if_pos e2, e3, e4, e5, ← e1, ← EV.out.2]; simp [Bool.or_assoc], show fgF L (k + 1) = Go.Proofs.Ytokcdlcmamdloaa.upd (fgF L k) (i * 24 + i) 0 from by simp only [fgF]; rw [if_pos e2, e3], show fgQ f L (k + 1) = Go.Proofs.Ytokcdlcmamdloaa.upd (fgQ f L k) i VV from by simp only [fgQ]; rw [if_pos e2, e3, e4, EV.out.1]]
            exact RA
          case measure => simp [intOf]; omega
      · have qI : ¬ fgI (fgF L k) (L k) = true := by unfold fgI; rw [hx, show decide (0 ≤ x ∧ x < 24) = false from by simpa using hin]; simp
        have RN : Hid (RkR c (h || orB (fgB f L) (k + 1)) bf bq f (fgF L (k + 1)) (fgQ f L (k + 1)) w wr) := Lib.hid (by
          rw [show (h || orB (fgB f L) (k + 1)) = (h || orB (fgB f L) k) from by simp only [orB, fgB]; rw [if_neg qI, Bool.or_false], show fgF L (k + 1) = fgF L k from by simp only [fgF]; rw [if_neg qI], show fgQ f L (k + 1) = fgQ f L k from by simp only [fgQ]; rw [if_neg qI]]
          exact R.out)
        clear hcell hx hpl hne qI R
        by_cases q1 : 0 ≤ x
        · have p1 : decide (0 ≤ x) = true := by simpa using q1
          have p2 : decide (x < 24) = false := by simp; omega
          go_wp2_with fail
          go_roundw
          case rel => exact ⟨k + 1, by omega, by go_num, RN⟩
          case measure => simp [intOf]; omega
        · have p1 : decide (0 ≤ x) = false := by simpa using q1
          go_wp2_with fail
          go_roundw
          case rel => exact ⟨k + 1, by omega, by go_num, RN⟩
          case measure => simp [intOf]; omega
    · have hkn2 : k = n := by omega
      subst hkn2
      have d1 : decide ((k : Int) < (k : Int)) = false := by simp
      have P1 := R.out.pB
      have P2 := R.out.fB
      have P3 := R.out.qB
      obtain ⟨HK, hHK⟩ : ∃ y, (h || orB (fgB f L) k) = y := ⟨_, rfl⟩
      rw [hHK] at R
      have EH := Lib.hid hHK
      clear hHK
      have SC := Lib.hid (rstep_all c HK f (fgF L k) (fgQ f L k) bf _ wr (R.out.upd.cellc HC.out) ((R.out.upd.frozen hcb).trans HF.out) P2)
      go_wp2_with (first | (refine wpList_load_row rfl 25 _ rfl (w.heap.size) rfl 25 _ (0, 0) _ (P1) Try.underlying25 rfl (icov.trans (by rw [arrv_size])) ?_) | (refine wpList_load_row rfl 23 _ rfl (bq) rfl 23 _ (0, 0) _ (P3) Try.underlying23 rfl (icol.trans (by rw [arrv_size])) ?_) | (go_at_call 8; (refine SC.out.mono ?_); rintro e w8 ⟨rfl, hu8⟩; have Z8 := R.out.r0.upd hu8 (by omega); have U8 := Lib.hid (R.out.upd.trans hu8); clear hu8) | (refine wpList_store_row rfl 25 _ _ rfl (w.heap.size + 1) _ rfl rfl 25 _ (Z8) (icov.trans (by rw [arrv_size])) (by rw [arrv_size, arrv_size]) (oneCell_arrv _ _) ?_))
      refine bodyPost_ret (results_cell_row Try.results23 _ _ (w.heap.size + 1) 25 (arrv 300 (stepF f (fgF L k) (fgQ f L k))) (0, 0) _ rfl (setRow_heap _ _ _ _ _ _ Z8) Try.underlying25 rfl (icov.trans (by rw [arrv_size]))) rfl ⟨rfl, ?_⟩
      rw [EH.out]
      exact U8.out.then' (below_row (Below.refl _ _) (by omega) _)
end Go.Proofs.Ytokcdlcmamdloaa
