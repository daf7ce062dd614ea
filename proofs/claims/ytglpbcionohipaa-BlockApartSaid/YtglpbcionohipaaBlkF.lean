/- Contract of block.Forget. -/
import Derived.Test.YtglpbcionohipaaBlkW
import Derived.Test.YtglpbcionohipaaAt
namespace Go.Proofs.Ytglpbcionohipaa
open Go.RowKit
set_option maxRecDepth 100000
/-- Is the k-th number a state that is not forgotten yet? -/
def fgI (F : Nat → Int) (x : Int) : Bool := decide (0 ≤ x ∧ x < 24) && decide (F (x.toNat * 24 + x.toNat) ≠ 0)
def fgF (L : Nat → Int) : Nat → Nat → Int | 0 => oneF | k + 1 => if fgI (fgF L k) (L k) = true then upd (fgF L k) ((L k).toNat * 24 + (L k).toNat) 0 else fgF L k
def fgQ (f L : Nat → Int) : Nat → Nat → Int | 0 => fun _ => 0 | k + 1 => if fgI (fgF L k) (L k) = true then upd (fgQ f L k) (L k).toNat (varV (atV f (L k).toNat (L k).toNat)) else fgQ f L k
def fgB (f L : Nat → Int) (k : Nat) : Bool := if fgI (fgF L k) (L k) = true then atH f (L k).toNat (L k).toNat || varH (atV f (L k).toNat (L k).toNat) else false
set_option maxHeartbeats 4000000 in
theorem forget_any (c : Addr) (h : Bool) (f : Nat → Int) (p : Option Addr) (n cp : Nat) (L : Nat → Int) (w : World) (hc : w.cell? c = some (.bool h)) (hf : w.frozen? c = false) (hL : Slc w p n L) (hn : n ≤ 1000000) :
    Calls Try.prog 14 #[.pointer (some c), .agg (arrv 300 f), .slice p n cp] w fun e w' =>
      e = .returned (.agg (arrv 300 (stepF f (fgF L n) (fgQ f L n)))) ∧ Upd c (h || orB (fgB f L) n || stepH f (fgF L n) (fgQ f L n)) w w' := by
  have hcb := World.block_lt_of_cell? w c hc
  have HC := Lib.hid hc
  have HF := Lib.hid hf
  have HL := Lib.hid hL
  clear hc hf hL
  go_enter Try.func14, Try.ntmps14
  obtain ⟨W0, hW0⟩ : ∃ x, (w.alloc (.cells (arrv 300 f) 29)).alloc (.cells Try.zeroCells29 29) = x := ⟨_, rfl⟩
  have P0 : Blk W0 w.heap.size 29 300 f := by rw [← hW0]; exact (Blk.new w _ _ _).alloc _
  have Z0 : Blk W0 (w.heap.size + 1) 29 300 (fun _ => 0) := by rw [← hW0, zcov]; exact Blk.new1 w _ _ _ _
  have U0 : Upd c h w W0 := by rw [← hW0]; exact Upd.then (Upd.refl HC.out) (by (repeat (first | with_reducible exact Below.refl _ _ | with_reducible apply Below.drew | (with_reducible refine below_drewN ?_ _) | (with_reducible refine Below.alloc ?_ (by (try simp) <;> omega) _) | (with_reducible refine Below.setCell ?_ (by (try simp) <;> omega) _))))
  have hz0 := Z0.lt
  go_upto_region 1 with fail
  (try rw [hW0])
  go_upto_region 2 with (first | (go_at_call 30; (refine (one_any _).mono ?_); rintro e w1 ⟨rfl, hb1⟩; have P1 := Lib.hid (P0.below hb1); have Z1 := Lib.hid (Z0.below hb1); have U1 := Lib.hid (U0.then hb1); have R1 : Blk (w1.alloc (.cells Try.zeroCells64 64)) w1.heap.size 64 576 (fun _ => 0) := (by rw [zmat]; exact Blk.new _ _ _ _); clear hb1) | (refine wpList_store_row rfl 64 _ _ rfl (w1.heap.size) _ rfl rfl 64 _ (R1) (imat.trans (by rw [arrv_size])) (by rw [arrv_size, arrv_size]) (oneCell_arrv _ _) ?_))
  obtain ⟨w2, hw2⟩ : ∃ x, x = ((w1.alloc (.cells Try.zeroCells64 64)).setRow w1.heap.size (arrv 576 oneF)) := ⟨_, rfl⟩
  rw [← hw2]
  obtain ⟨M2, MB⟩ := Blk.made zmat oneF hw2
  obtain ⟨bf, hbf⟩ : ∃ x, w1.heap.size = x := ⟨_, rfl⟩
  obtain ⟨bq, hbq⟩ : ∃ x, w2.heap.size = x := ⟨_, rfl⟩
  have h1 : w.heap.size + 1 < bf := by rw [← hbf]; exact Z1.out.lt
  rw [hbf] at M2 ⊢
  have h2 : bf < bq := by rw [← hbq]; exact M2.lt
  have S2 : RtR c h bf bq f oneF (fun _ => 0) w (w2.alloc (.cells #[.int .i64 0, .int .i64 0, .int .i64 0, .int .i64 0, .int .i64 0, .int .i64 0, .int .i64 0, .int .i64 0, .int .i64 0, .int .i64 0, .int .i64 0, .int .i64 0, .int .i64 0, .int .i64 0, .int .i64 0, .int .i64 0, .int .i64 0, .int .i64 0, .int .i64 0, .int .i64 0, .int .i64 0, .int .i64 0, .int .i64 0, .int .i64 0] 27)) :=
    ⟨(U1.out.then MB).alloc _, (P1.out.below MB).alloc _, (Z1.out.below MB).alloc _, M2.alloc _, by rw [zcol, ← hbq]; exact Blk.new w2 _ _ _⟩
  have S2 := Lib.hid S2
  clear P0 Z0 U0 hz0 R1 hw2 M2 MB P1 Z1 U1 hW0 hbf
  go_upto_region 3 with fail
  (try rw [hbq])
  generalize w2.alloc (.cells #[.int .i64 0, .int .i64 0, .int .i64 0, .int .i64 0, .int .i64 0, .int .i64 0, .int .i64 0, .int .i64 0, .int .i64 0, .int .i64 0, .int .i64 0, .int .i64 0, .int .i64 0, .int .i64 0, .int .i64 0, .int .i64 0, .int .i64 0, .int .i64 0, .int .i64 0, .int .i64 0, .int .i64 0, .int .i64 0, .int .i64 0, .int .i64 0] 27) = W3 at *
  clear hbq
  go_wp2_with fail
  go_loopw [14] (fun i wr => ∃ k : Nat, k ≤ n ∧ i = .int .i64 k ∧ Hid (RtR c (h || orB (fgB f L) k) bf bq f (fgF L k) (fgQ f L k) w wr)) (fun i _ => n - (intOf i).toNat)
  case atStart =>
    refine ⟨0, by omega, rfl, ?_⟩
    rw [show (h || orB (fgB f L) 0) = h from by simp [orB]]
    exact S2
  case round =>
    obtain ⟨k, hk, rfl, R⟩ := hrel
    by_cases hkn : k < n
    · have d1 : decide ((k : Int) < (n : Int)) = true := by simp; omega
      obtain ⟨pb, po, rfl, hcell⟩ := HL.out k hkn
      have hne : (⟨pb, po + k, none⟩ : Addr) ≠ c := fun e => by rw [e, HC.out] at hcell; cases hcell
      have hpl := World.block_lt_of_cell? _ _ hcell
      have hcell' : wr.cell? ⟨pb, po + k, none⟩ = some (.int .i64 (L k)) := (R.out.upd.cell hpl (Ne.symm hne)).trans hcell
      obtain ⟨x, hx⟩ : ∃ x, L k = x := ⟨_, rfl⟩
      rw [hx] at hcell'
      by_cases hin : 0 ≤ x ∧ x < 24
      · obtain ⟨i, rfl⟩ : ∃ i : Nat, x = (i : Int) := ⟨x.toNat, by omega⟩
        have hi : i < 24 := by omega
        have q1 : decide ((0 : Int) ≤ (i : Int) ∧ (i : Int) < 24) = true := by simp; omega
        have m0 := R.out.fB.cell (i := i * 24 + i) (by omega)
        by_cases hz : fgF L k (i * 24 + i) = 0
        · rw [hz] at m0
          have q2 : ((0 : Int) != 0) = false := by simp
          have qI : ¬ fgI (fgF L k) (L k) = true := by unfold fgI; rw [hx, Int.toNat_natCast, hz]; simp
          have EK := Lib.hid qI
          clear hcell hx hpl hne S2 qI
          go_wp2_with (go_at_call 31; (refine (is_any (i : Int) _).mono ?_); rintro e w5 ⟨rfl, rfl⟩; (rw [q1]))
          go_roundw
          case rel =>
            refine ⟨k + 1, by omega, by go_num, ?_⟩
            rw [show (h || orB (fgB f L) (k + 1)) = (h || orB (fgB f L) k) from by simp only [orB, fgB]; rw [if_neg EK.out, Bool.or_false], show fgF L (k + 1) = fgF L k from by simp only [fgF]; rw [if_neg EK.out], show fgQ f L (k + 1) = fgQ f L k from by simp only [fgQ]; rw [if_neg EK.out]]
            exact R
          case measure => simp [intOf]; omega
        · have qI : fgI (fgF L k) (L k) = true := by unfold fgI; rw [hx, Int.toNat_natCast, q1]; simp [hz]
          obtain ⟨FV, hFV⟩ : ∃ y, fgF L k (i * 24 + i) = y := ⟨_, rfl⟩
          rw [hFV] at m0 hz
          have q2 : (FV != 0) = true := by simpa using hz
          obtain ⟨HK, hHK⟩ : ∃ y, (h || orB (fgB f L) k) = y := ⟨_, rfl⟩
          obtain ⟨AV, hAV⟩ : ∃ y, atV f i i = y := ⟨_, rfl⟩
          obtain ⟨AH, hAH⟩ : ∃ y, atH f i i = y := ⟨_, rfl⟩
          rw [hHK] at R
          have HR := Lib.hid R.out
          have qn : (L k).toNat = i := by rw [hx]; simp
          have EK := Lib.hid (And.intro hHK (And.intro qI (And.intro qn (And.intro hAV hAH))))
          have AC := Lib.hid (at_any c HK f i i wr.drew (by exact R.out.upd.cellc HC.out) (by exact (R.out.upd.frozen hcb).trans HF.out) hi hi)
          rw [hAV, hAH] at AC
          have PB := Lib.hid R.out.pB
          go_upto_region 7 with (go_at_call 31; (refine (is_any (i : Int) _).mono ?_); rintro e w5 ⟨rfl, rfl⟩; (rw [q1]))
          clear R hHK qI qn hcell hcell' hx q1 q2 hpl hne S2 hFV hAV hAH m0 hz
          refine wp_region_M (fun w' => Blk w' w.heap.size 29 300 f) 14 (by kernel_rfl) ?_ (fun hHeld => ?_)
          · exact PB.out
          refine wpAnyM_take 0 (v := ?_) rfl (by kernel_rfl) (fun _ _ _ h => h) (Or.inl ⟨by rfl, ?_⟩) (by assumption) ?_
          rotate_left
          · (intro wx hSw; (try dsimp only at hSw); go_simp; (try with_reducible rfl))
          (try simp only [Act.put, List.setIfInBounds_toArray, List.set_cons_zero, List.set_cons_succ])
          refine wpAnyM_take 1 (v := ?_) rfl (by kernel_rfl) (fun _ _ _ h => h) (Or.inl ⟨by rfl, ?_⟩) (by assumption) ?_
          rotate_left
          · (intro wx hSw; (try dsimp only at hSw); go_simp; (try with_reducible rfl))
          (try simp only [Act.put, List.setIfInBounds_toArray, List.set_cons_zero, List.set_cons_succ])
          refine wpAnyM_take 2 (v := ?_) rfl (by kernel_rfl) (fun _ _ _ h => h) (Or.inl ⟨by rfl, ?_⟩) (by assumption) ?_
          rotate_left
          · (intro wx hSw; (try dsimp only at hSw); go_simp; (try with_reducible rfl))
          (try simp only [Act.put, List.setIfInBounds_toArray, List.set_cons_zero, List.set_cons_succ])
          refine wpAnyM_take 3 (v := ?_) rfl (by kernel_rfl) (fun _ _ _ h => h) (Or.inl ⟨by rfl, ?_⟩) (by assumption) ?_
          rotate_left
          · (intro wx hSw; (try dsimp only at hSw); go_simp; (try with_reducible rfl))
          (try simp only [Act.put, List.setIfInBounds_toArray, List.set_cons_zero, List.set_cons_succ])
          refine wpAnyM_take 4 (v := ?_) rfl (by kernel_rfl) (fun _ _ _ h => h) (Or.inl ⟨by rfl, ?_⟩) (by assumption) ?_
          rotate_left
          · (intro wx hSw; (try dsimp only at hSw); go_simp; (try with_reducible rfl))
          (try simp only [Act.put, List.setIfInBounds_toArray, List.set_cons_zero, List.set_cons_succ])
          refine wpAnyM_take 5 (v := ?_) rfl (by kernel_rfl) (fun _ _ _ h => h) (Or.inl ⟨by rfl, ?_⟩) (by assumption) ?_
          rotate_left
          · (intro wx hSw; refine Eq.trans (run_load_row 29 (.tmp 4) (by rfl) (w.heap.size) (by rfl) _ _ _ _ (hSw) Try.underlying29 rfl (icov.trans (by rw [arrv_size]))) ?_; with_reducible rfl)
          (try simp only [Act.put, List.setIfInBounds_toArray, List.set_cons_zero, List.set_cons_succ])
          refine wpAnyM_take 6 (v := ?_) rfl (by kernel_rfl) (fun _ _ _ h => h) (Or.inl ⟨by rfl, ?_⟩) (by assumption) ?_
          rotate_left
          · (intro wx hSw; (try dsimp only at hSw); go_simp; (try with_reducible rfl))
          (try simp only [Act.put, List.setIfInBounds_toArray, List.set_cons_zero, List.set_cons_succ])
          refine wpAnyM_take 7 (v := ?_) rfl (by kernel_rfl) (fun _ _ _ h => h) (Or.inl ⟨by rfl, ?_⟩) (by assumption) ?_
          rotate_left
          · (intro wx hSw; (try dsimp only at hSw); go_simp; (try with_reducible rfl))
          (try simp only [Act.put, List.setIfInBounds_toArray, List.set_cons_zero, List.set_cons_succ])
          refine wpAnyM_take 10 (v := ?_) rfl (by kernel_rfl) (fun _ _ _ h => h) (Or.inl ⟨by rfl, ?_⟩) (by assumption) ?_
          rotate_left
          · (intro wx hSw; (try dsimp only at hSw); go_simp; (first | rw [if_pos (by omega)] | rw [if_pos ⟨by omega, by omega⟩] | skip); (try with_reducible rfl))
          (try simp only [Act.put, List.setIfInBounds_toArray, List.set_cons_zero, List.set_cons_succ])
          refine wpAnyM_take 11 (v := ?_) rfl (by kernel_rfl) (fun _ _ _ h => h) (Or.inl ⟨by rfl, ?_⟩) (by assumption) ?_
          rotate_left
          · (intro wx hSw; (try dsimp only at hSw); go_simp; (first | rw [if_pos (by omega)] | rw [if_pos ⟨by omega, by omega⟩] | skip); (try with_reducible rfl))
          (try simp only [Act.put, List.setIfInBounds_toArray, List.set_cons_zero, List.set_cons_succ])
          refine wpAnyM_oneS 8 rfl (by kernel_rfl) (fun K hK => ?_)
          go_simp
          (refine AC.out.mono ?_); rintro e w5 ⟨rfl, hu5⟩; have R5 := Lib.hid (HR.out.upd' hcb h1 h2 (Upd.after (Below.drew (Below.refl _ _)) hu5)); clear hu5
          (try dsimp only)
          (try simp only [Act.put, List.setIfInBounds_toArray, List.set_cons_zero, List.set_cons_succ])
          clear hHeld
          refine hK.out _ _ ?_ (fun hHeld => ?_)
          · exact R5.out.pB
          clear hK K
          (try simp only [Act.put, List.setIfInBounds_toArray, List.set_cons_zero, List.set_cons_succ])
          refine wpAnyM_oneS 9 rfl (by kernel_rfl) (fun K hK => ?_)
          go_simp
          (refine (bvar_any c (HK || AH) AV w5 (R5.out.upd.cellc HC.out) ((R5.out.upd.frozen hcb).trans HF.out)).mono ?_); rintro e w6 ⟨rfl, hw6⟩; have R6 := Lib.hid (R5.out.upd' hcb h1 h2 ((Upd.set c (HK || AH || varH AV) w5).then (by rw [hw6]; exact Below.refl _ _))); have n0 := R6.out.fB.cell (i := i * 24 + i) (by omega); have n1 := R6.out.fB.free (i * 24 + i); have n2 := (R6.out.qB.other (a := ⟨bf, i * 24 + i, none⟩) (by simp; omega) (.int .i64 0)).cell (i := i) hi; have n3 := (R6.out.qB.other (a := ⟨bf, i * 24 + i, none⟩) (by simp; omega) (.int .i64 0)).free i; clear hw6
          (try dsimp only)
          (try simp only [Act.put, List.setIfInBounds_toArray, List.set_cons_zero, List.set_cons_succ])
          clear hHeld
          refine hK.out _ _ ?_ (fun hHeld => ?_)
          · exact R6.out.pB
          clear hK K
          (try simp only [Act.put, List.setIfInBounds_toArray, List.set_cons_zero, List.set_cons_succ])
          refine wpAnyM_oneS 12 rfl (by kernel_rfl) (fun K hK => ?_)
          go_simp
          clear hHeld
          refine hK.out _ _ ?_ (fun hHeld => ?_)
          · exact R6.out.pB.other (by simp; omega) _
          clear hK K
          (try simp only [Act.put, List.setIfInBounds_toArray, List.set_cons_zero, List.set_cons_succ])
          refine wpAnyM_take 13 (v := ?_) rfl (by kernel_rfl) (fun _ _ _ h => h) (Or.inl ⟨by rfl, ?_⟩) (by assumption) ?_
          rotate_left
          · (intro wx hSw; (try dsimp only at hSw); go_simp; (first | rw [if_pos (by omega)] | rw [if_pos ⟨by omega, by omega⟩] | skip); (try with_reducible rfl))
          (try simp only [Act.put, List.setIfInBounds_toArray, List.set_cons_zero, List.set_cons_succ])
          refine wpAnyM_one 14 rfl (by kernel_rfl) (fun K hK => ?_)
          go_simp
          refine hK.out _ _ (.inl (by kernel_rfl)) (fun _ => ?_)
          clear hK K
          (try simp only [Act.put, List.setIfInBounds_toArray, List.set_cons_zero, List.set_cons_succ])
          refine wpAnyM_done (by kernel_rfl) ?_ _
          have R7 := Lib.hid (R6.out.setFQ h1 h2 (i * 24 + i) i 0 (varV AV))
          generalize (w6.setCell ⟨bf, i * 24 + i, none⟩ (.int .i64 0)).setCell ⟨bq, i, none⟩ (.int .i64 (varV AV)) = W7 at *
          clear n0 n1 n2 n3 R5 R6 HR AC PB
          (try clear hHeld)
          go_wp2_with fail
          go_roundw
          case rel =>
            obtain ⟨e1, e2, e3, e4, e5⟩ := EK.out
            refine ⟨k + 1, by omega, by go_num, ?_⟩
            rw [show (h || orB (fgB f L) (k + 1)) = (HK || AH || varH AV) from by simp only [orB, fgB]; rw [if_pos e2, e3, e4, e5, ← e1]; simp [Bool.or_assoc], show fgF L (k + 1) = Go.Proofs.Ytglpbcionohipaa.upd (fgF L k) (i * 24 + i) 0 from by simp only [fgF]; rw [if_pos e2, e3], show fgQ f L (k + 1) = Go.Proofs.Ytglpbcionohipaa.upd (fgQ f L k) i (varV AV) from by simp only [fgQ]; rw [if_pos e2, e3, e4]]
            exact R7
          case measure => simp [intOf]; omega
      · have q1 : decide ((0 : Int) ≤ x ∧ x < 24) = false := by simpa using hin
        have qI : ¬ fgI (fgF L k) (L k) = true := by unfold fgI; rw [hx, q1]; simp
        have EK := Lib.hid qI
        clear hcell hx hpl hne S2 qI
        go_wp2_with (go_at_call 31; (refine (is_any x _).mono ?_); rintro e w5 ⟨rfl, rfl⟩; (rw [q1]))
        go_roundw
        case rel =>
          refine ⟨k + 1, by omega, by go_num, ?_⟩
          rw [show (h || orB (fgB f L) (k + 1)) = (h || orB (fgB f L) k) from by simp only [orB, fgB]; rw [if_neg EK.out, Bool.or_false], show fgF L (k + 1) = fgF L k from by simp only [fgF]; rw [if_neg EK.out], show fgQ f L (k + 1) = fgQ f L k from by simp only [fgQ]; rw [if_neg EK.out]]
          exact R
        case measure => simp [intOf]; omega
    · have hkn2 : k = n := by omega
      subst hkn2
      have d1 : decide ((k : Int) < (k : Int)) = false := by simp
      have P1 := R.out.pB
      have P2 := R.out.fB
      have P3 := R.out.qB
      have SC := Lib.hid (step_any c _ f (fgF L k) (fgQ f L k) wr (R.out.upd.cellc HC.out) ((R.out.upd.frozen hcb).trans HF.out))
      go_wp2_with (first | (refine wpList_load_row rfl 29 _ rfl (w.heap.size) rfl 29 _ (0, 0) _ (P1) Try.underlying29 rfl (icov.trans (by rw [arrv_size])) ?_) | (refine wpList_load_row rfl 64 _ rfl (bf) rfl 64 _ (0, 0) _ (P2) Try.underlying64 rfl (imat.trans (by rw [arrv_size])) ?_) | (refine wpList_load_row rfl 27 _ rfl (bq) rfl 27 _ (0, 0) _ (P3) Try.underlying27 rfl (icol.trans (by rw [arrv_size])) ?_) | (go_at_call 33; (refine SC.out.mono ?_); rintro e w8 ⟨rfl, hu8⟩; have Z8 := R.out.r0.upd hu8 (by omega); have U8 := Lib.hid (R.out.upd.trans hu8); clear hu8) | (refine wpList_store_row rfl 29 _ _ rfl (w.heap.size + 1) _ rfl rfl 29 _ (Z8) (icov.trans (by rw [arrv_size])) (by rw [arrv_size, arrv_size]) (oneCell_arrv _ _) ?_))
      refine bodyPost_ret (results_cell_row Try.results14 _ _ (w.heap.size + 1) 29 (arrv 300 (stepF f (fgF L k) (fgQ f L k))) (0, 0) _ rfl (setRow_heap _ _ _ _ _ _ Z8) Try.underlying29 rfl (icov.trans (by rw [arrv_size]))) rfl ⟨rfl, ?_⟩
      exact U8.out.then' (below_row (Below.refl _ _) (by omega) _)
end Go.Proofs.Ytglpbcionohipaa
