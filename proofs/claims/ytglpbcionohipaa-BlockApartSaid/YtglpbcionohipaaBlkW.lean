/- Contracts of package block: is, variance, Reset. -/
import Derived.Test.YtglpbcionohipaaBlkD
import Derived.Test.YtglpbcionohipaaWith
import Derived.Test.YtglpbcionohipaaLaw
namespace Go.Proofs.Ytglpbcionohipaa
open Go.RowKit
set_option maxRecDepth 100000
theorem is_any (i : Int) (w : World) : Calls Try.prog 31 #[.int .i64 i] w fun e w' => e = .returned (.bool (decide (0 ≤ i ∧ i < 24))) ∧ w = w' := by
  by_cases h1 : 0 ≤ i
  · by_cases h2 : i < 24
    · rw [show decide (0 ≤ i ∧ i < 24) = true from by simp; omega]
      go_enter Try.func31, Try.ntmps31
      go_wp2_with fail
      go_ret
      exact ⟨rfl, rfl⟩
    · rw [show decide (0 ≤ i ∧ i < 24) = false from by simp; omega]
      go_enter Try.func31, Try.ntmps31
      go_wp2_with fail
      go_ret
      exact ⟨rfl, rfl⟩
  · rw [show decide (0 ≤ i ∧ i < 24) = false from by simp; omega]
    go_enter Try.func31, Try.ntmps31
    go_wp2_with fail
    go_ret
    exact ⟨rfl, rfl⟩
theorem bvar_any (c : Addr) (h : Bool) (a : Int) (w : World) (hc : w.cell? c = some (.bool h)) (hf : w.frozen? c = false) :
    Calls Try.prog 32 #[.pointer (some c), .int .i64 a] w fun e w' => e = .returned (.int .i64 (varV a)) ∧ w.setCell c (.bool (h || varH a)) = w' := by
  go_enter Try.func32, Try.ntmps32
  go_wp2_with (go_at_call 22; refine (clamp_any c h a _ _ _ hc hf).mono ?_; rintro e w' ⟨rfl, rfl⟩)
  go_ret
  exact ⟨rfl, rfl⟩
/-- Is the k-th state of a run that begins at 'from' one? -/
def rtI (fr : Int) (k : Nat) : Bool := decide (0 ≤ fr + k ∧ fr + k < 24)
def rtF (fr : Int) : Nat → Nat → Int | 0 => oneF | k + 1 => if rtI fr k = true then upd (rtF fr k) ((fr + k).toNat * 24 + (fr + k).toNat) 0 else rtF fr k
def rtQ (fr : Int) (L : Nat → Int) : Nat → Nat → Int | 0 => fun _ => 0 | k + 1 => if rtI fr k = true then upd (rtQ fr L k) (fr + k).toNat (varV (L k)) else rtQ fr L k
def rtB (fr : Int) (L : Nat → Int) (k : Nat) : Bool := if rtI fr k = true then varH (L k) else false
def gwQ (fr : Int) (L : Nat → Int) : Nat → Nat → Int | 0 => fun _ => 0 | k + 1 => if rtI fr k = true then upd (gwQ fr L k) (fr + k).toNat (L k) else gwQ fr L k
structure RtR (c : Addr) (h : Bool) (bf bq : Nat) (f F Q : Nat → Int) (w wr : World) : Prop where
  upd : Upd c h w wr
  pB : Blk wr w.heap.size 29 300 f
  r0 : Blk wr (w.heap.size + 1) 29 300 (fun _ => 0)
  fB : Blk wr bf 64 576 F
  qB : Blk wr bq 27 24 Q
theorem RtR.upd' {c : Addr} {h h' : Bool} {bf bq : Nat} {f F Q : Nat → Int} {w wr w' : World} (s : RtR c h bf bq f F Q w wr) (hc : c.block < w.heap.size) (h1 : w.heap.size + 1 < bf) (h2 : bf < bq) (u : Upd c h' wr w') : RtR c h' bf bq f F Q w w' :=
  ⟨s.upd.trans u, s.pB.upd u (by omega), s.r0.upd u (by omega), s.fB.upd u (by omega), s.qB.upd u (by omega)⟩
theorem RtR.setFQ {c : Addr} {h : Bool} {bf bq : Nat} {f F Q : Nat → Int} {w wr : World} (s : RtR c h bf bq f F Q w wr) (h1 : w.heap.size + 1 < bf) (h2 : bf < bq) (i j : Nat) (x y : Int) :
    RtR c h bf bq f (Go.Proofs.Ytglpbcionohipaa.upd F i x) (Go.Proofs.Ytglpbcionohipaa.upd Q j y) w ((wr.setCell ⟨bf, i, none⟩ (.int .i64 x)).setCell ⟨bq, j, none⟩ (.int .i64 y)) :=
  ⟨(s.upd.setCell (by simp; omega) _).setCell (by simp; omega) _, (s.pB.other (by simp; omega) _).other (by simp; omega) _, (s.r0.other (by simp; omega) _).other (by simp; omega) _, (s.fB.set _ _).other (by simp; omega) _, (s.qB.other (by simp; omega) _).set _ _⟩
set_option maxHeartbeats 4000000 in
theorem reset_any (c : Addr) (h : Bool) (f : Nat → Int) (fr : Int) (p : Option Addr) (n cp : Nat) (L : Nat → Int) (w : World) (hc : w.cell? c = some (.bool h)) (hf : w.frozen? c = false) (hL : Slc w p n L) (hfr : -1000000 ≤ fr ∧ fr ≤ 1000000) (hn : n ≤ 1000000) :
    Calls Try.prog 13 #[.pointer (some c), .agg (arrv 300 f), .int .i64 fr, .slice p n cp] w fun e w' =>
      e = .returned (.agg (arrv 300 (stepF f (rtF fr n) (rtQ fr L n)))) ∧ Upd c (h || orB (rtB fr L) n || stepH f (rtF fr n) (rtQ fr L n)) w w' := by
  have hcb := World.block_lt_of_cell? w c hc
  have HC := Lib.hid hc
  have HF := Lib.hid hf
  have HL := Lib.hid hL
  clear hc hf hL
  go_enter Try.func13, Try.ntmps13
  obtain ⟨W0, hW0⟩ : ∃ x, (w.alloc (.cells (arrv 300 f) 29)).alloc (.cells Try.zeroCells29 29) = x := ⟨_, rfl⟩
  have P0 : Blk W0 w.heap.size 29 300 f := by rw [← hW0]; exact (Blk.new w _ _ _).alloc _
  have Z0 : Blk W0 (w.heap.size + 1) 29 300 (fun _ => 0) := by rw [← hW0, zcov]; exact Blk.new1 w _ _ _ _
  have U0 : Upd c h w W0 := by rw [← hW0]; exact Upd.then (Upd.refl HC.out) (by (repeat (first | with_reducible exact Below.refl _ _ | with_reducible apply Below.drew | (with_reducible refine below_drewN ?_ _) | (with_reducible refine Below.alloc ?_ (by (try simp) <;> omega) _) | (with_reducible refine Below.setCell ?_ (by (try simp) <;> omega) _))))
  have hz0 := Z0.lt
  go_upto_region 1 with fail
  (try rw [hW0])
  go_upto_region 2 with (first | (go_at_call 30; (refine (one_any _).mono ?_); rintro e w1 ⟨rfl, hb1⟩; have P1 := Lib.hid (P0.below hb1); have Z1 := Lib.hid (Z0.below hb1); have U1 := Lib.hid (U0.then hb1); have R1 : Blk (w1.alloc (.cells Try.zeroCells64 64)) w1.heap.size 64 576 (fun _ => 0) := (by rw [zmat]; exact Blk.new _ _ _ _); clear hb1) | (refine wpList_store_row rfl 64 _ _ rfl (w1.heap.size) _ rfl rfl 64 _ (R1) (imat.trans (by rw [arrv_size])) (by rw [arrv_size, arrv_size]) (oneCell_arrv _ _) ?_))
  obtain ⟨w2, hw2⟩ : ∃ x, x = ((w1.alloc (.cells Try.zeroCells64 64)).setRow w1.heap.size (arrv 576 oneF)) := ⟨_, rfl⟩
  rw [← hw2]
  obtain ⟨M2, MB⟩ := Blk.made zmat oneF hw2
  obtain ⟨bf, hbf⟩ : ∃ x, w1.heap.size = x := ⟨_, rfl⟩
  obtain ⟨bq, hbq⟩ : ∃ x, w2.heap.size = x := ⟨_, rfl⟩
  have h1 : w.heap.size + 1 < bf := by rw [← hbf]; exact Z1.out.lt
  rw [hbf] at M2 ⊢
  have h2 : bf < bq := by rw [← hbq]; exact M2.lt
  have S2 : RtR c h bf bq f oneF (fun _ => 0) w (w2.alloc (.cells #[.int .i64 0, .int .i64 0, .int .i64 0, .int .i64 0, .int .i64 0, .int .i64 0, .int .i64 0, .int .i64 0, .int .i64 0, .int .i64 0, .int .i64 0, .int .i64 0, .int .i64 0, .int .i64 0, .int .i64 0, .int .i64 0, .int .i64 0, .int .i64 0, .int .i64 0, .int .i64 0, .int .i64 0, .int .i64 0, .int .i64 0, .int .i64 0] 27)) :=
    ⟨(U1.out.then MB).alloc _, (P1.out.below MB).alloc _, (Z1.out.below MB).alloc _, M2.alloc _, by rw [zcol, ← hbq]; exact Blk.new w2 _ _ _⟩
  have S2 := Lib.hid S2
  clear P0 Z0 U0 hz0 R1 hw2 M2 MB P1 Z1 U1 hW0 hbf
  go_upto_region 3 with fail
  (try rw [hbq])
  generalize w2.alloc (.cells #[.int .i64 0, .int .i64 0, .int .i64 0, .int .i64 0, .int .i64 0, .int .i64 0, .int .i64 0, .int .i64 0, .int .i64 0, .int .i64 0, .int .i64 0, .int .i64 0, .int .i64 0, .int .i64 0, .int .i64 0, .int .i64 0, .int .i64 0, .int .i64 0, .int .i64 0, .int .i64 0, .int .i64 0, .int .i64 0, .int .i64 0, .int .i64 0] 27) = W3 at *
  clear hbq
  go_wp2_with fail
  go_loopw [17] (fun i wr => ∃ k : Nat, k ≤ n ∧ i = .int .i64 k ∧ Hid (RtR c (h || orB (rtB fr L) k) bf bq f (rtF fr k) (rtQ fr L k) w wr)) (fun i _ => n - (intOf i).toNat)
  case atStart =>
    refine ⟨0, by omega, rfl, ?_⟩
    rw [show (h || orB (rtB fr L) 0) = h from by simp [orB]]
    exact S2
  case round =>
    obtain ⟨k, hk, rfl, R⟩ := hrel
    by_cases hkn : k < n
    · have d1 : decide ((k : Int) < (n : Int)) = true := by simp; omega
      obtain ⟨pb, po, rfl, hcell⟩ := HL.out k hkn
      have hne : (⟨pb, po + k, none⟩ : Addr) ≠ c := fun e => by rw [e, HC.out] at hcell; cases hcell
      have hpl := World.block_lt_of_cell? _ _ hcell
      have hcell' : wr.cell? ⟨pb, po + k, none⟩ = some (.int .i64 (L k)) := (R.out.upd.cell hpl (Ne.symm hne)).trans hcell
      have kw : IntKind.i64.wrap (fr + (k : Int)) = fr + (k : Int) := IntWalk.i64_in _ (by omega)
      obtain ⟨x, hx⟩ : ∃ x, fr + (k : Int) = x := ⟨_, rfl⟩
      rw [hx] at kw
      go_upto_region 7 with fail
      (try rw [hx]); (try rw [kw])
      by_cases hin : 0 ≤ x ∧ x < 24
      · obtain ⟨i, rfl⟩ : ∃ i : Nat, x = (i : Int) := ⟨x.toNat, by omega⟩
        have hi : i < 24 := by omega
        have q1 : decide ((0 : Int) ≤ (i : Int) ∧ (i : Int) < 24) = true := by simp; omega
        have qI : rtI fr k = true := by unfold rtI; rw [hx]; exact q1
        have qn : (fr + (k : Int)).toNat = i := by rw [hx]; simp
        go_upto_region 8 with (go_at_call 31; (refine (is_any (i : Int) _).mono ?_); rintro e w5 ⟨rfl, rfl⟩; (rw [q1]))
        obtain ⟨HK, hHK⟩ : ∃ y, (h || orB (rtB fr L) k) = y := ⟨_, rfl⟩
        rw [hHK] at R
        have HR := Lib.hid R.out
        have EK := Lib.hid (And.intro hHK (And.intro qI qn))
        have VC := Lib.hid (bvar_any c HK (L k) wr.drew (by exact R.out.upd.cellc HC.out) (by exact (R.out.upd.frozen hcb).trans HF.out))
        clear R hHK qI qn hcell hcell' kw hx q1 hpl hne S2
        refine wp_region_M (fun _ => True) 10 (by kernel_rfl) ?_ (fun hHeld => ?_)
        · trivial
        refine wpAnyM_take 0 (v := ?_) rfl (by kernel_rfl) (fun _ _ _ h => h) (Or.inl ⟨by rfl, ?_⟩) (by assumption) ?_
        rotate_left
        · (intro wx hSw; (try dsimp only at hSw); go_simp; (try with_reducible rfl))
        (try simp only [Act.put, List.setIfInBounds_toArray, List.set_cons_zero, List.set_cons_succ])
        refine wpAnyM_take 1 (v := ?_) rfl (by kernel_rfl) (fun _ _ _ h => h) (Or.inl ⟨by rfl, ?_⟩) (by assumption) ?_
        rotate_left
        · (intro wx hSw; (try dsimp only at hSw); go_simp; (try with_reducible rfl))
        (try simp only [Act.put, List.setIfInBounds_toArray, List.set_cons_zero, List.set_cons_succ])
        refine wpAnyM_take 2 (v := ?_) rfl (by kernel_rfl) (fun _ _ _ h => h) (Or.inl ⟨by rfl, ?_⟩) (by assumption) ?_
        rotate_left
        · (intro wx hSw; (try dsimp only at hSw); go_simp; (try with_reducible rfl))
        (try simp only [Act.put, List.setIfInBounds_toArray, List.set_cons_zero, List.set_cons_succ])
        refine wpAnyM_take 3 (v := ?_) rfl (by kernel_rfl) (fun _ _ _ h => h) (Or.inl ⟨by rfl, ?_⟩) (by assumption) ?_
        rotate_left
        · (intro wx hSw; (try dsimp only at hSw); go_simp; (try with_reducible rfl))
        (try simp only [Act.put, List.setIfInBounds_toArray, List.set_cons_zero, List.set_cons_succ])
        refine wpAnyM_take 4 (v := ?_) rfl (by kernel_rfl) (fun _ _ _ h => h) (Or.inl ⟨by rfl, ?_⟩) (by assumption) ?_
        rotate_left
        · (intro wx hSw; (try dsimp only at hSw); go_simp; (try with_reducible rfl))
        (try simp only [Act.put, List.setIfInBounds_toArray, List.set_cons_zero, List.set_cons_succ])
        refine wpAnyM_take 6 (v := ?_) rfl (by kernel_rfl) (fun _ _ _ h => h) (Or.inl ⟨by rfl, ?_⟩) (by assumption) ?_
        rotate_left
        · (intro wx hSw; (try dsimp only at hSw); go_simp; (first | rw [if_pos (by omega)] | rw [if_pos ⟨by omega, by omega⟩] | skip); (try with_reducible rfl))
        (try simp only [Act.put, List.setIfInBounds_toArray, List.set_cons_zero, List.set_cons_succ])
        refine wpAnyM_take 7 (v := ?_) rfl (by kernel_rfl) (fun _ _ _ h => h) (Or.inl ⟨by rfl, ?_⟩) (by assumption) ?_
        rotate_left
        · (intro wx hSw; (try dsimp only at hSw); go_simp; (first | rw [if_pos (by omega)] | rw [if_pos ⟨by omega, by omega⟩] | skip); (try with_reducible rfl))
        (try simp only [Act.put, List.setIfInBounds_toArray, List.set_cons_zero, List.set_cons_succ])
        refine wpAnyM_oneS 5 rfl (by kernel_rfl) (fun K hK => ?_)
        go_simp
        (refine VC.out.mono ?_); rintro e w6 ⟨rfl, hw6⟩; have R6 := Lib.hid (HR.out.upd' hcb h1 h2 (Upd.after (Below.drew (Below.refl _ _)) ((Upd.set c (HK || varH (L k)) wr.drew).then (by rw [hw6]; exact Below.refl _ _)))); have n0 := R6.out.fB.cell (i := i * 24 + i) (by omega); have n1 := R6.out.fB.free (i * 24 + i); have n2 := (R6.out.qB.other (a := ⟨bf, i * 24 + i, none⟩) (by simp; omega) (.int .i64 0)).cell (i := i) hi; have n3 := (R6.out.qB.other (a := ⟨bf, i * 24 + i, none⟩) (by simp; omega) (.int .i64 0)).free i; clear hw6
        (try dsimp only)
        (try simp only [Act.put, List.setIfInBounds_toArray, List.set_cons_zero, List.set_cons_succ])
        clear hHeld
        refine hK.out _ _ ?_ (fun hHeld => ?_)
        · trivial
        clear hK K
        (try simp only [Act.put, List.setIfInBounds_toArray, List.set_cons_zero, List.set_cons_succ])
        refine wpAnyM_oneS 8 rfl (by kernel_rfl) (fun K hK => ?_)
        go_simp
        clear hHeld
        refine hK.out _ _ ?_ (fun hHeld => ?_)
        · trivial
        clear hK K
        (try simp only [Act.put, List.setIfInBounds_toArray, List.set_cons_zero, List.set_cons_succ])
        refine wpAnyM_take 9 (v := ?_) rfl (by kernel_rfl) (fun _ _ _ h => h) (Or.inl ⟨by rfl, ?_⟩) (by assumption) ?_
        rotate_left
        · (intro wx hSw; (try dsimp only at hSw); go_simp; (first | rw [if_pos (by omega)] | rw [if_pos ⟨by omega, by omega⟩] | skip); (try with_reducible rfl))
        (try simp only [Act.put, List.setIfInBounds_toArray, List.set_cons_zero, List.set_cons_succ])
        refine wpAnyM_one 10 rfl (by kernel_rfl) (fun K hK => ?_)
        go_simp
        refine hK.out _ _ (.inl (by kernel_rfl)) (fun _ => ?_)
        clear hK K
        (try simp only [Act.put, List.setIfInBounds_toArray, List.set_cons_zero, List.set_cons_succ])
        refine wpAnyM_done (by kernel_rfl) ?_ _
        have R7 := Lib.hid (R6.out.setFQ h1 h2 (i * 24 + i) i 0 (varV (L k)))
        generalize (w6.setCell ⟨bf, i * 24 + i, none⟩ (.int .i64 0)).setCell ⟨bq, i, none⟩ (.int .i64 (varV (L k))) = W7 at *
        clear n0 n1 n2 n3 R6 HR VC
        (try clear hHeld)
        go_wp2_with fail
        go_roundw
        case rel =>
          obtain ⟨e1, e2, e3⟩ := EK.out
          refine ⟨k + 1, by omega, by go_num, ?_⟩
          rw [show (h || orB (rtB fr L) (k + 1)) = (HK || varH (L k)) from by rw [← e1]; simp [orB, rtB, e2, Bool.or_assoc], show rtF fr (k + 1) = Go.Proofs.Ytglpbcionohipaa.upd (rtF fr k) (i * 24 + i) 0 from by simp only [rtF]; rw [if_pos e2, e3], show rtQ fr L (k + 1) = Go.Proofs.Ytglpbcionohipaa.upd (rtQ fr L k) i (varV (L k)) from by simp only [rtQ]; rw [if_pos e2, e3]]
          exact R7
        case measure => simp [intOf]; omega
      · have q1 : decide ((0 : Int) ≤ x ∧ x < 24) = false := by simpa using hin
        have qI : rtI fr k = false := by unfold rtI; rw [hx]; exact q1
        have qI' : ¬ rtI fr k = true := by rw [qI]; simp
        have EK := Lib.hid qI'
        go_wp2_with (go_at_call 31; (refine (is_any x _).mono ?_); rintro e w5 ⟨rfl, rfl⟩; (rw [q1]))
        go_roundw
        case rel =>
          refine ⟨k + 1, by omega, by go_num, ?_⟩
          rw [show (h || orB (rtB fr L) (k + 1)) = (h || orB (rtB fr L) k) from by simp only [orB, rtB]; rw [if_neg EK.out, Bool.or_false], show rtF fr (k + 1) = rtF fr k from by simp only [rtF]; rw [if_neg EK.out], show rtQ fr L (k + 1) = rtQ fr L k from by simp only [rtQ]; rw [if_neg EK.out]]
          exact R
        case measure => simp [intOf]; omega
    · have hkn2 : k = n := by omega
      subst hkn2
      have d1 : decide ((k : Int) < (k : Int)) = false := by simp
      have P1 := R.out.pB
      have P2 := R.out.fB
      have P3 := R.out.qB
      have SC := Lib.hid (step_any c _ f (rtF fr k) (rtQ fr L k) wr (R.out.upd.cellc HC.out) ((R.out.upd.frozen hcb).trans HF.out))
      go_wp2_with (first | (refine wpList_load_row rfl 29 _ rfl (w.heap.size) rfl 29 _ (0, 0) _ (P1) Try.underlying29 rfl (icov.trans (by rw [arrv_size])) ?_) | (refine wpList_load_row rfl 64 _ rfl (bf) rfl 64 _ (0, 0) _ (P2) Try.underlying64 rfl (imat.trans (by rw [arrv_size])) ?_) | (refine wpList_load_row rfl 27 _ rfl (bq) rfl 27 _ (0, 0) _ (P3) Try.underlying27 rfl (icol.trans (by rw [arrv_size])) ?_) | (go_at_call 33; (refine SC.out.mono ?_); rintro e w8 ⟨rfl, hu8⟩; have Z8 := R.out.r0.upd hu8 (by omega); have U8 := Lib.hid (R.out.upd.trans hu8); clear hu8) | (refine wpList_store_row rfl 29 _ _ rfl (w.heap.size + 1) _ rfl rfl 29 _ (Z8) (icov.trans (by rw [arrv_size])) (by rw [arrv_size, arrv_size]) (oneCell_arrv _ _) ?_))
      refine bodyPost_ret (results_cell_row Try.results13 _ _ (w.heap.size + 1) 29 (arrv 300 (stepF f (rtF fr k) (rtQ fr L k))) (0, 0) _ rfl (setRow_heap _ _ _ _ _ _ Z8) Try.underlying29 rfl (icov.trans (by rw [arrv_size]))) rfl ⟨rfl, ?_⟩
      exact U8.out.then' (below_row (Below.refl _ _) (by omega) _)
end Go.Proofs.Ytglpbcionohipaa
