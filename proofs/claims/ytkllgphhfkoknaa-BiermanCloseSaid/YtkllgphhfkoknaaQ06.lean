/- Contracts of the program's functions and plain laws, part 6: they hold for all arguments. -/
import Derived.Test.YtkllgphhfkoknaaQ05
import Derived.Test.YtkllgphhfkoknaaQ04
import Derived.Outline
/- Contract of tri.At: a number of the covariance. -/
namespace Go.Proofs.Ytkllgphhfkoknaa
open Go.RowKit
set_option maxRecDepth 100000
structure AtR (c : Addr) (h : Bool) (f : Nat → Int) (i j m : Nat) (u x : Value) (n : Nat) (w wr : World) : Prop where
  upd : Upd c (h || orB (atB f j m) n) w wr
  blk : Blk wr w.heap.size 25 300 f
  ou : Own wr (w.heap.size + 1) 2 u n (atU f i m)
  ox : Own wr (w.heap.size + 1) 2 x n (atX f j m)
  ne : ∀ g, u.ownBlock = some g → x.ownBlock ≠ some g
theorem ownBlock_lt {w : World} {B T : Nat} {v : Value} {n : Nat} {L : Nat → Int} (h : Own w B T v n L) {g : Nat} (e : v.ownBlock = some g) : B ≤ g ∧ g < w.heap.size := World.ownsRow.lt h g e
theorem snoc_fun {n : Nat} {L : Nat → Int} {y : Int} (e : y = L n) : ∀ i, i < n + 1 → upd L n y i = L i := fun i _ => by
  unfold upd; split
  · rename_i h; rw [h, e]
  · rfl
set_option maxHeartbeats 4000000 in
theorem at_any (c : Addr) (h : Bool) (f : Nat → Int) (i j : Nat) (w : World) (hc : w.cell? c = some (.bool h)) (hf : w.frozen? c = false) (hi : i < 24) (hj : j < 24) :
    Calls Try.prog 6 #[.pointer (some c), .agg (arrv 300 f), .int .i64 i, .int .i64 j] w fun e w' => e = .returned (.int .i64 (atV f i j)) ∧ Upd c (h || atH f i j) w w' := by
  have hcb := World.block_lt_of_cell? w c hc
  have HC := Lib.hid hc
  have HF := Lib.hid hf
  clear hc hf
  obtain ⟨m, hm⟩ : ∃ m, max i j = m := ⟨_, rfl⟩
  have hm24 : m < 24 := by omega
  have ev : atV f i j = dotV 30 (atU f i m) (atX f j m) (24 - m) := by unfold atV; rw [hm]
  have eh : (h || atH f i j) = (h || orB (atB f j m) (24 - m) || dotH 30 (atU f i m) (atX f j m) (24 - m)) := by unfold atH; rw [hm, Bool.or_assoc]
  rw [ev, eh]
  clear ev eh
  go_enter Try.func6, Try.ntmps6
  go_wp2_with fail
  go_loopw [9, 10, 11] (fun u x k wr => ∃ q : Nat, m ≤ q ∧ q ≤ 24 ∧ k = .int .i64 (q : Int) ∧ Hid (AtR c h f i j m u x (q - m) w wr)) (fun _ _ k _ => 24 - (intOf k).toNat)
  case atStart =>
    refine ⟨m, Nat.le_refl _, by omega, by congr 1; omega, ?_⟩
    rw [Nat.sub_self]
    refine ⟨?_, Blk.new w _ _ _, Own.nil _ _ _ _, Own.nil _ _ _ _, fun g hg => by cases hg⟩
    rw [show (h || orB (atB f j m) 0) = h from by simp [orB]]
    exact Upd.then (Upd.refl HC.out) (by (repeat (first | with_reducible exact Below.refl _ _ | with_reducible apply Below.drew | (with_reducible refine below_drewN ?_ _) | (with_reducible refine Below.alloc ?_ (by (try simp) <;> omega) _) | (with_reducible refine Below.setCell ?_ (by (try simp) <;> omega) _))))
  case round =>
    obtain ⟨q, hmq, hq24, rfl, R⟩ := hrel
    by_cases hlt : q < 24
    · obtain ⟨n, hn⟩ : ∃ n, q - m = n := ⟨_, rfl⟩
      rw [hn] at R
      have hqn : m + n = q := by omega
      have hn24 : n ≤ 24 := by omega
      have HQN := Lib.hid hqn
      clear hn hqn
      have d1 : decide ((q : Int) < 24) = true := by simp; omega
      have PB := R.out.blk
      have U1 := Lib.hid R.out.upd
      have O1 := Lib.hid R.out.ou
      have O2 := Lib.hid R.out.ox
      have NE := Lib.hid R.out.ne
      have hbl := PB.lt
      clear R
      go_upto_region 8 with (first | (refine wpList_load_row rfl 25 _ rfl w.heap.size rfl 25 _ (0, 0) _ PB Try.underlying25 rfl (icov.trans (by rw [arrv_size])) ?_) | (go_at_call 17; (refine (u_any f i q _ hi hlt).mono ?_); rintro e w2 ⟨rfl, hb2⟩; have HB2 := Lib.hid hb2; have hz2 := hb2.size; clear hb2) | (refine wpList_app1 rfl (.tmp 29) (.tmp 34) rfl (w.heap.size + 1) rfl ((O1.out.below HB2.out).alloc _) w2.heap.size 1 (uV f i q) rfl (by simp [go_sem]) (by omega) (by simp; omega) (w2.heap.size + 1) (by simp) ?_; intro g1 cp1 w3 hO1 hg1 hat1 hlt1; have HO1 := Lib.hid hO1; have HG1 := Lib.hid hg1; have HA1 := Lib.hid hat1; clear hO1 hg1 hat1))
      have hA2 : Below wr.heap.size wr (w2.alloc (.cells #[.int .i64 (uV f i q)] 2)) := HB2.out.alloc hz2 _
      have hG : Below (w.heap.size + 1) wr w3 := below_grown (hA2.mono (by omega)) HG1.out (fun k hk => (ownBlock_lt O1.out hk).1) (by simp; omega)
      have hz3 : wr.heap.size ≤ w3.heap.size := hG.size
      have PB3 : w3.heap[w.heap.size]? = some (.cells (arrv 300 f) 25 (0, 0)) := (hG.block _ (by omega)).trans PB
      have U3 := U1.out.then' (hG.mono (by omega))
      have c3 := U3.cellc HC.out
      have f3 := (U3.frozen hcb).trans HF.out
      have O23 : Own w3 (w.heap.size + 1) 2 u10 n (atX f j m) := ((O2.out.below hA2)).grown HG1.out (fun k hk e => NE.out k e.symm.symm hk)
      have NG : u10.ownBlock ≠ some g1 := by
        rcases HA1.out with e | e
        · exact NE.out g1 e
        · intro e2
          have := (ownBlock_lt O2.out e2).2
          omega
      have HO13 := Lib.hid (HO1.out.congr (snoc_fun (n := n) (L := atU f i m) (by simp only [atU]; rw [HQN.out])))
      have HO23 := Lib.hid O23
      have HU3 := Lib.hid U3
      have hq0 : (0 : Int) ≤ (q : Int) := Int.natCast_nonneg _
      have hq1 : (q : Int) < 24 := by omega
      have hl3 : w.heap.size < w3.heap.size := Blk.lt (f := f) PB3
      have HNG := Lib.hid NG
      clear PB hA2 HB2 U1 O1 O2 NE hbl hz2 HA1 HO1 O23 U3 HG1 hG NG
      refine wp_region_M (fun w' => w'.heap[w.heap.size]? = some (.cells (arrv 300 f) 25 (0, 0))) 13 (by kernel_rfl) ?_ (fun hHeld => ?_)
      · exact PB3
      refine wpAnyM_take 0 (v := ?_) rfl (by kernel_rfl) (fun _ _ _ h => h) (Or.inl ⟨by rfl, ?_⟩) (by assumption) ?_
      rotate_left
      · (intro wx hSw; (try dsimp only at hSw); go_simp; (try with_reducible rfl))
      (try simp only [Act.put, nA, nB, nC])
      refine wpAnyM_take 1 (v := ?_) rfl (by kernel_rfl) (fun _ _ _ h => h) (Or.inl ⟨by rfl, ?_⟩) (by assumption) ?_
      rotate_left
      · (intro wx hSw; (try dsimp only at hSw); go_simp; (try with_reducible rfl))
      (try simp only [Act.put, nA, nB, nC])
      refine wpAnyM_take 2 (v := ?_) rfl (by kernel_rfl) (fun _ _ _ h => h) (Or.inl ⟨by rfl, ?_⟩) (by assumption) ?_
      rotate_left
      · (intro wx hSw; refine Eq.trans (run_load_row 25 (.tmp 5) (by rfl) (w.heap.size) (by rfl) _ _ _ _ (hSw) Try.underlying25 rfl (icov.trans (by rw [arrv_size]))) ?_; with_reducible rfl)
      (try simp only [Act.put, nA, nB, nC])
      refine wpAnyM_take 3 (v := ?_) rfl (by kernel_rfl) (fun _ _ _ h => h) (Or.inl ⟨by rfl, ?_⟩) (by assumption) ?_
      rotate_left
      · (intro wx hSw; (try dsimp only at hSw); go_simp; (try with_reducible rfl))
      (try simp only [Act.put, nA, nB, nC])
      refine wpAnyM_take 4 (v := ?_) rfl (by kernel_rfl) (fun _ _ _ h => h) (Or.inl ⟨by rfl, ?_⟩) (by assumption) ?_
      rotate_left
      · (intro wx hSw; (try dsimp only at hSw); go_simp; (try with_reducible rfl))
      (try simp only [Act.put, nA, nB, nC])
      refine wpAnyM_take 6 (v := ?_) rfl (by kernel_rfl) (fun _ _ _ h => h) (Or.inl ⟨by rfl, ?_⟩) (by assumption) ?_
      rotate_left
      · (intro wx hSw; (try dsimp only at hSw); go_simp; (try with_reducible rfl))
      (try simp only [Act.put, nA, nB, nC])
      refine wpAnyM_take 7 (v := ?_) rfl (by kernel_rfl) (fun _ _ _ h => h) (Or.inl ⟨by rfl, ?_⟩) (by assumption) ?_
      rotate_left
      · (intro wx hSw; (try dsimp only at hSw); go_simp; (try with_reducible rfl))
      (try simp only [Act.put, nA, nB, nC])
      refine wpAnyM_take 8 (v := ?_) rfl (by kernel_rfl) (fun _ _ _ h => h) (Or.inl ⟨by rfl, ?_⟩) (by assumption) ?_
      rotate_left
      · (intro wx hSw; (try dsimp only at hSw); go_simp; (try with_reducible rfl))
      (try simp only [Act.put, nA, nB, nC])
      refine wpAnyM_take 9 (v := ?_) rfl (by kernel_rfl) (fun _ _ _ h => h) (Or.inl ⟨by rfl, ?_⟩) (by assumption) ?_
      rotate_left
      · (intro wx hSw; have hq := Blk.cell (f := f) (i := 276 + q) hSw (by omega); go_simp; (try with_reducible rfl))
      (try simp only [Act.put, nA, nB, nC])
      refine wpAnyM_oneS 5 rfl (by kernel_rfl) (fun K hK => ?_)
      go_simp
      (refine (u_any f j q _ hj hlt).mono ?_); rintro e w4 ⟨rfl, hb4⟩; have HB4 := Lib.hid (Below.after (Below.drew (Below.refl w3.heap.size w3)) hb4); have kp := (HB4.out.block w.heap.size (by omega)).trans PB3; have hz4 := HB4.out.size; have c4 := (HB4.out.cell (World.block_lt_of_cell? _ _ c3)).trans c3; have f4 := (HB4.out.frozen (World.block_lt_of_cell? _ _ c3)).trans f3; clear hb4
      (try dsimp only)
      (try simp only [Act.put, nA, nB, nC])
      clear hHeld
      refine hK.out _ _ ?_ (fun hHeld => ?_)
      · exact kp
      clear hK K
      (try simp only [Act.put, nA, nB, nC])
      refine wpAnyM_oneS 10 rfl (by kernel_rfl) (fun K hK => ?_)
      go_simp
      (refine (fmul_any c _ (uV f j q) (f (276 + q)) 30 _ c4 f4).mono ?_); rintro e w5 ⟨rfl, hu5⟩; have kp2 := (hu5.block (k := w.heap.size) (by omega) (by omega)).trans kp; have HU5 := Lib.hid hu5; have hz5 := hu5.size; have kp3 : ∀ o, (w5.alloc o).heap[w.heap.size]? = some (.cells (arrv 300 f) 25 (0, 0)) := (fun o => Blk.alloc (show Blk w5 w.heap.size 25 300 f from kp2) o); have O25 := Lib.hid (((HO23.out.below HB4.out).upd HU5.out (by omega)).alloc (.cells #[.int .i64 (mulV (uV f j q) (f (276 + q)) 30)] 2)); clear hu5
      (try dsimp only)
      (try simp only [Act.put, nA, nB, nC])
      clear hHeld
      refine hK.out _ _ ?_ (fun hHeld => ?_)
      · exact kp2
      clear hK K
      (try simp only [Act.put, nA, nB, nC])
      refine wpAnyM_oneS 11 rfl (by kernel_rfl) (fun K hK => ?_)
      go_simp
      clear hHeld
      refine hK.out _ _ ?_ (fun hHeld => ?_)
      · exact kp3 _
      clear hK K
      (try simp only [Act.put, nA, nB, nC])
      refine wpAnyM_oneS 12 rfl (by kernel_rfl) (fun K hK => ?_)
      refine step_app1 rfl (.tmp 36) (.tmp 47) rfl (w.heap.size + 1) rfl O25.out w5.heap.size 1 (mulV (uV f j q) (f (276 + q)) 30) rfl (by simp [go_sem]) (by omega) (by simp; omega) (w5.heap.size + 1) (by simp) ?_; intro g2 cp2 w6 hO2 hg2 hat2 hlt2; have HG6 := Lib.hid (below_grown (Below.refl (w.heap.size + 1) (w5.alloc (.cells #[.int .i64 (mulV (uV f j q) (f (276 + q)) 30)] 2))) hg2 (fun k hk => (ownBlock_lt O25.out hk).1) (by simp; omega)); have kp4 := (HG6.out.block w.heap.size (by omega)).trans (kp3 _); have HO26 := Lib.hid hO2; have HGR := Lib.hid hg2; have HAT := Lib.hid hat2; clear hO2 hg2 hat2
      clear hHeld
      refine hK.out _ _ ?_ (fun hHeld => ?_)
      · exact kp4
      clear hK K
      (try simp only [Act.put, nA, nB, nC])
      refine wpAnyM_one 13 rfl (by kernel_rfl) (fun K hK => ?_)
      go_simp
      refine hK.out _ _ (.inl (by kernel_rfl)) (fun _ => ?_)
      clear hK K
      (try simp only [Act.put, nA, nB, nC])
      refine wpAnyM_done (by kernel_rfl) ?_ _
      go_wp2_with fail
      go_roundw
      case rel =>
        have hcb' : c.block < w.heap.size + 1 := by omega
        refine ⟨q + 1, by omega, by omega, by go_num, ?_⟩
        rw [show q + 1 - m = n + 1 by have := HQN.out; omega]
        refine ⟨?_, kp4, ?_, HO26.out.congr (snoc_fun (n := n) (L := atX f j m) (by simp only [atX]; rw [HQN.out])), ?_⟩
        · rw [show (h || orB (atB f j m) (n + 1)) = (h || orB (atB f j m) n || mulH (uV f j q) (f (276 + q)) 30) from by simp [orB, atB, HQN.out, Bool.or_assoc]]
          exact ((((HU3.out.then HB4.out).trans HU5.out).alloc _).then' (HG6.out.mono (by omega)))
        · refine Own.grown (((HO13.out.below HB4.out).upd HU5.out hcb').alloc _) HGR.out (fun k hk e => ?_)
          have hk' : g1 = k := by simpa [Value.ownBlock] using hk
          subst hk'
          exact HNG.out e
        · intro g hg e
          have hg' : g1 = g := by simpa [Value.ownBlock] using hg
          have he' : g2 = g := by simpa [Value.ownBlock] using e
          subst hg'
          subst he'
          rcases HAT.out with e | e
          · exact HNG.out e
          · omega
      case measure => simp [intOf]; omega
    · obtain rfl : q = 24 := by omega
      rw [show ((24 : Nat) : Int) = 24 from rfl]
      obtain ⟨gu, cu, rfl, hBu, hlu, hcu⟩ := R.out.ou.slc (by omega)
      obtain ⟨gx, cx, rfl, hBx, hlx, hcx⟩ := R.out.ox.slc (by omega)
      have U1 := Lib.hid R.out.upd
      have c1 := U1.out.cellc HC.out
      have f1 := (U1.out.frozen hcb).trans HF.out
      have DC := Lib.hid (dot_any c _ 30 (atU f i m) (atX f j m) gu 0 cu gx 0 cx (24 - m) wr c1 f1 (by decide) (by decide) (by omega) hcu hcx)
      clear R hcu hcx
      go_wp2_with (go_at_call 7; (refine DC.out.mono ?_); rintro e w3 ⟨rfl, hu3⟩)
      go_ret
      exact ⟨rfl, U1.out.trans hu3⟩
end Go.Proofs.Ytkllgphhfkoknaa
