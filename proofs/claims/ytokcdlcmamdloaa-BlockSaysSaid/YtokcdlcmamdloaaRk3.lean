/- Contract of the reference's At, of a state's own variance. -/
import Derived.Test.YtokcdlcmamdloaaRk2
import Derived.Test.YtokcdlcmamdloaaQ06
import Derived.Outline
namespace Go.Proofs.Ytokcdlcmamdloaa
open Go.RowKit
set_option maxRecDepth 100000
structure RaR (c : Addr) (h : Bool) (f : Nat → Int) (pb i : Nat) (u x : Value) (n : Nat) (w wr : World) : Prop where
  upd : Upd c (h || orB (atB f i i) n) w wr
  blk : Blk wr pb 25 300 f
  ou : Own wr w.heap.size 2 u n (atU f i i)
  ox : Own wr w.heap.size 2 x n (atX f i i)
  ne : ∀ g, u.ownBlock = some g → x.ownBlock ≠ some g
set_option maxHeartbeats 8000000 in
theorem rat_any (c : Addr) (h : Bool) (f : Nat → Int) (pb i : Nat) (w : World) (hc : w.cell? c = some (.bool h)) (hf : w.frozen? c = false) (hi : i < 24) (hP : Blk w pb 25 300 f) :
    Calls Try.prog 57 #[.pointer (some c), .pointer (some ⟨pb, 0, none⟩), .int .i64 i, .int .i64 i] w fun e w' =>
      e = .returned (.int .i64 (atV f i i)) ∧ Upd c (h || atH f i i) w w' := by
  have hcb := World.block_lt_of_cell? w c hc
  have hpb := hP.lt
  have hpc : pb ≠ c.block := hP.flag hc
  have HC := Lib.hid hc
  have HF := Lib.hid hf
  have HP := Lib.hid hP
  clear hc hf hP
  have ev : atV f i i = dotV 30 (atU f i i) (atX f i i) (24 - i) := by unfold atV; rw [Nat.max_self]
  have eh : (h || atH f i i) = (h || orB (atB f i i) (24 - i) || dotH 30 (atU f i i) (atX f i i) (24 - i)) := by unfold atH; rw [Nat.max_self, Bool.or_assoc]
  rw [ev, eh]
  clear ev eh
  have g1 : decide ((i : Int) < 0) = false := by simp
  have g2 : decide (24 ≤ (i : Int)) = false := by simp; omega
  have g3 : decide (i < i) = false := by simp
  go_enter Try.func57, Try.ntmps57
  go_wp2_with fail
  go_loopw [9, 10, 11] (fun k u x wr => ∃ q : Nat, i ≤ q ∧ q ≤ 24 ∧ k = .int .i64 (q : Int) ∧ ∃ u' x', u' = u ∧ x' = x ∧ Hid (RaR c h f pb i u' x' (q - i) w wr)) (fun k _ _ _ => 24 - (intOf k).toNat)
  case atStart =>
    refine ⟨i, Nat.le_refl _, by omega, rfl, _, _, rfl, rfl, Lib.hid ?_⟩
    rw [Nat.sub_self]
    refine ⟨?_, HP.out, Own.nil _ _ _ _, Own.nil _ _ _ _, fun g hg => by cases hg⟩
    rw [show (h || orB (atB f i i) 0) = h from by simp [orB]]
    exact Upd.refl HC.out
  case round =>
    obtain ⟨q, hmq, hq24, rfl, ua, xa, hua, hxa, R⟩ := hrel
    subst hua
    subst hxa
    by_cases hlt : q < 24
    · obtain ⟨n, hn⟩ : ∃ n, q - i = n := ⟨_, rfl⟩
      rw [hn] at R
      have hqn : i + n = q := by omega
      have hn24 : n ≤ 24 := by omega
      have HQN := Lib.hid hqn
      clear hn hqn
      have d1 : decide ((q : Int) < 24) = true := by simp; omega
      have PB := R.out.blk
      have U1 := Lib.hid R.out.upd
      have O1 := Lib.hid R.out.ou
      have O2 := Lib.hid R.out.ox
      have NE := Lib.hid R.out.ne
      have hbl := PB.lt
      have hwz := R.out.upd.size
      clear R
      go_upto_region 11 with (first | (go_at_call 38; (refine (rU_any f pb i q _ hi hlt PB).mono ?_); rintro e w2 ⟨rfl, hb2⟩; have HB2 := Lib.hid hb2; have hz2 := hb2.size; clear hb2) | (refine wpList_app1 rfl (.tmp 35) (.tmp 40) rfl w.heap.size rfl ((O1.out.below HB2.out).alloc _) w2.heap.size 1 (uV f i q) rfl (by simp [go_sem]) (by omega) (by simp; omega) (w2.heap.size + 1) (by simp) ?_; intro g1 cp1 w3 hO1 hg1 hat1 hlt1; have HO1 := Lib.hid hO1; have HG1 := Lib.hid hg1; have HA1 := Lib.hid hat1; clear hO1 hg1 hat1))
      have hA2 : Below wr.heap.size wr (w2.alloc (.cells #[.int .i64 (uV f i q)] 2)) := HB2.out.alloc hz2 _
      have hG : Below w.heap.size wr w3 := below_grown (hA2.mono hwz) HG1.out (fun k hk => (ownBlock_lt O1.out hk).1) (by simp; omega)
      have hz3 : wr.heap.size ≤ w3.heap.size := hG.size
      have PB3 : Blk w3 pb 25 300 f := (hG.block _ hpb).trans PB
      have U3 := U1.out.then' (hG.mono (by omega))
      have c3 := U3.cellc HC.out
      have f3 := (U3.frozen hcb).trans HF.out
      have O23 : Own w3 w.heap.size 2 xa n (atX f i i) := ((O2.out.below hA2)).grown HG1.out (fun k hk e => NE.out k e.symm.symm hk)
      have NG : xa.ownBlock ≠ some g1 := by
        rcases HA1.out with e | e
        · exact NE.out g1 e
        · intro e2
          have := (ownBlock_lt O2.out e2).2
          omega
      have HO13 := Lib.hid (HO1.out.congr (snoc_fun (n := n) (L := atU f i i) (by simp only [atU]; rw [HQN.out])))
      have HO23 := Lib.hid O23
      have HU3 := Lib.hid U3
      have hq0 : (0 : Int) ≤ (q : Int) := Int.natCast_nonneg _
      have hq1 : (q : Int) < 24 := by omega
      have HNG := Lib.hid NG
      have hz5' := Lib.hid hz3
      clear PB hA2 HB2 U1 O1 O2 NE hbl hz2 HA1 HO1 O23 U3 HG1 hG NG
      refine wp_region_M (fun w' => Blk w' pb 25 300 f) 17 (by kernel_rfl) ?_ (fun hHeld => ?_)
      · exact PB3
      refine wpAnyM_take 0 (v := ?_) rfl (by kernel_rfl) (fun _ _ _ h => h) (Or.inl ⟨by rfl, ?_⟩) (by assumption) ?_
      rotate_left
      · (intro wx hSw; (try dsimp only at hSw); go_simp; (try with_reducible rfl))
      (try simp only [Act.put, List.setIfInBounds_toArray, List.set_cons_zero, List.set_cons_succ])
      refine wpAnyM_take 1 (v := ?_) rfl (by kernel_rfl) (fun _ _ _ h => h) (Or.inl ⟨by rfl, ?_⟩) (by assumption) ?_
      rotate_left
      · (intro wx hSw; (try dsimp only at hSw); go_simp; (try with_reducible rfl))
      (try simp only [Act.put, List.setIfInBounds_toArray, List.set_cons_zero, List.set_cons_succ])
      refine wpAnyM_take 2 (v := ?_) rfl (by kernel_rfl) (fun _ _ _ h => h) (Or.inl ⟨by rfl, ?_⟩) (by assumption) ?_
      rotate_left
      · (intro wx hSw; (try dsimp only at hSw); go_simp; (try with_reducible rfl))
      (try simp only [Act.put, List.setIfInBounds_toArray, List.set_cons_zero, List.set_cons_succ])
      refine wpAnyM_take 3 (v := ?_) rfl (by kernel_rfl) (fun _ _ _ h => h) (Or.inl ⟨by rfl, ?_⟩) (by assumption) ?_
      rotate_left
      · (intro wx hSw; (try dsimp only at hSw); go_simp; (try with_reducible rfl))
      (try simp only [Act.put, List.setIfInBounds_toArray, List.set_cons_zero, List.set_cons_succ])
      refine wpAnyM_take 4 (v := ?_) rfl (by kernel_rfl) (fun _ _ _ h => h) (Or.inl ⟨by rfl, ?_⟩) (by assumption) ?_
      rotate_left
      · (intro wx hSw; (try dsimp only at hSw); go_simp; (try with_reducible rfl))
      (try simp only [Act.put, List.setIfInBounds_toArray, List.set_cons_zero, List.set_cons_succ])
      refine wpAnyM_take 5 (v := ?_) rfl (by kernel_rfl) (fun _ _ _ h => h) (Or.inl ⟨by rfl, ?_⟩) (by assumption) ?_
      rotate_left
      · (intro wx hSw; (try dsimp only at hSw); go_simp; (try with_reducible rfl))
      (try simp only [Act.put, List.setIfInBounds_toArray, List.set_cons_zero, List.set_cons_succ])
      refine wpAnyM_take 6 (v := ?_) rfl (by kernel_rfl) (fun _ _ _ h => h) (Or.inl ⟨by rfl, ?_⟩) (by assumption) ?_
      rotate_left
      · (intro wx hSw; (try dsimp only at hSw); go_simp; (try with_reducible rfl))
      (try simp only [Act.put, List.setIfInBounds_toArray, List.set_cons_zero, List.set_cons_succ])
      refine wpAnyM_take 8 (v := ?_) rfl (by kernel_rfl) (fun _ _ _ h => h) (Or.inl ⟨by rfl, ?_⟩) (by assumption) ?_
      rotate_left
      · (intro wx hSw; (try dsimp only at hSw); go_simp; (try with_reducible rfl))
      (try simp only [Act.put, List.setIfInBounds_toArray, List.set_cons_zero, List.set_cons_succ])
      refine wpAnyM_take 9 (v := ?_) rfl (by kernel_rfl) (fun _ _ _ h => h) (Or.inl ⟨by rfl, ?_⟩) (by assumption) ?_
      rotate_left
      · (intro wx hSw; (try dsimp only at hSw); go_simp; (try with_reducible rfl))
      (try simp only [Act.put, List.setIfInBounds_toArray, List.set_cons_zero, List.set_cons_succ])
      refine wpAnyM_take 10 (v := ?_) rfl (by kernel_rfl) (fun _ _ _ h => h) (Or.inl ⟨by rfl, ?_⟩) (by assumption) ?_
      rotate_left
      · (intro wx hSw; (try dsimp only at hSw); go_simp; (try with_reducible rfl))
      (try simp only [Act.put, List.setIfInBounds_toArray, List.set_cons_zero, List.set_cons_succ])
      refine wpAnyM_take 11 (v := ?_) rfl (by kernel_rfl) (fun _ _ _ h => h) (Or.inl ⟨by rfl, ?_⟩) (by assumption) ?_
      rotate_left
      · (intro wx hSw; (try dsimp only at hSw); go_simp; (try with_reducible rfl))
      (try simp only [Act.put, List.setIfInBounds_toArray, List.set_cons_zero, List.set_cons_succ])
      refine wpAnyM_take 12 (v := ?_) rfl (by kernel_rfl) (fun _ _ _ h => h) (Or.inl ⟨by rfl, ?_⟩) (by assumption) ?_
      rotate_left
      · (intro wx hSw; (try dsimp only at hSw); go_simp; (first | rw [if_pos (by omega)] | rw [if_pos ⟨by omega, by omega⟩] | skip); (try with_reducible rfl))
      (try simp only [Act.put, List.setIfInBounds_toArray, List.set_cons_zero, List.set_cons_succ])
      refine wpAnyM_take 13 (v := ?_) rfl (by kernel_rfl) (fun _ _ _ h => h) (Or.inl ⟨by rfl, ?_⟩) (by assumption) ?_
      rotate_left
      · (intro wx hSw; have hq := Blk.cell (f := f) (i := 276 + q) hSw (by omega); go_simp; (try with_reducible rfl))
      (try simp only [Act.put, List.setIfInBounds_toArray, List.set_cons_zero, List.set_cons_succ])
      refine wpAnyM_oneS 7 rfl (by kernel_rfl) (fun K hK => ?_)
      go_simp
      (refine (rU_any f pb i q _ hi hlt (show Blk w3.drew pb 25 300 f from PB3)).mono ?_); rintro e w4 ⟨rfl, hb4⟩; have HB4 := Lib.hid (Below.after (Below.drew (Below.refl w3.heap.size w3)) hb4); have kp := PB3.below HB4.out; have hz4 := HB4.out.size; have c4 := (HB4.out.cell (World.block_lt_of_cell? _ _ c3)).trans c3; have f4 := (HB4.out.frozen (World.block_lt_of_cell? _ _ c3)).trans f3; clear hb4
      (try dsimp only)
      (try simp only [Act.put, List.setIfInBounds_toArray, List.set_cons_zero, List.set_cons_succ])
      clear hHeld
      refine hK.out _ _ ?_ (fun hHeld => ?_)
      · exact kp
      clear hK K
      (try simp only [Act.put, List.setIfInBounds_toArray, List.set_cons_zero, List.set_cons_succ])
      refine wpAnyM_oneS 14 rfl (by kernel_rfl) (fun K hK => ?_)
      go_simp
      (refine (rm_any c _ (uV f i q) (f (276 + q)) _ c4 f4).mono ?_); rintro e w5 ⟨rfl, hu5⟩; have kp2 := kp.upd hu5 hpc; have HU5 := Lib.hid hu5; have hz5 := hu5.size; have kp3 : ∀ o, Blk (w5.alloc o) pb 25 300 f := (fun o => kp2.alloc o); have O25 := Lib.hid (((HO23.out.below HB4.out).upd HU5.out hcb).alloc (.cells #[.int .i64 (mulV (uV f i q) (f (276 + q)) 30)] 2)); clear hu5
      (try dsimp only)
      (try simp only [Act.put, List.setIfInBounds_toArray, List.set_cons_zero, List.set_cons_succ])
      clear hHeld
      refine hK.out _ _ ?_ (fun hHeld => ?_)
      · exact kp2
      clear hK K
      (try simp only [Act.put, List.setIfInBounds_toArray, List.set_cons_zero, List.set_cons_succ])
      refine wpAnyM_oneS 15 rfl (by kernel_rfl) (fun K hK => ?_)
      go_simp
      clear hHeld
      refine hK.out _ _ ?_ (fun hHeld => ?_)
      · exact kp3 _
      clear hK K
      (try simp only [Act.put, List.setIfInBounds_toArray, List.set_cons_zero, List.set_cons_succ])
      refine wpAnyM_oneS 16 rfl (by kernel_rfl) (fun K hK => ?_)
      refine step_app1 rfl (.tmp 42) (.tmp 57) rfl w.heap.size rfl O25.out w5.heap.size 1 (mulV (uV f i q) (f (276 + q)) 30) rfl (by simp [go_sem]) (by omega) (by simp; omega) (w5.heap.size + 1) (by simp) ?_; intro g2 cp2 w6 hO2 hg2 hat2 hlt2; have HG6 := Lib.hid (below_grown (Below.refl w.heap.size (w5.alloc (.cells #[.int .i64 (mulV (uV f i q) (f (276 + q)) 30)] 2))) hg2 (fun k hk => (ownBlock_lt O25.out hk).1) (by simp; omega)); have kp4 : Blk w6 pb 25 300 f := (HG6.out.block pb hpb).trans (kp3 _); have HO26 := Lib.hid hO2; have HGR := Lib.hid hg2; have HAT := Lib.hid hat2; clear hO2 hg2 hat2
      clear hHeld
      refine hK.out _ _ ?_ (fun hHeld => ?_)
      · exact kp4
      clear hK K
      (try simp only [Act.put, List.setIfInBounds_toArray, List.set_cons_zero, List.set_cons_succ])
      refine wpAnyM_one 17 rfl (by kernel_rfl) (fun K hK => ?_)
      go_simp
      refine hK.out _ _ (.inl (by kernel_rfl)) (fun _ => ?_)
      clear hK K
      (try simp only [Act.put, List.setIfInBounds_toArray, List.set_cons_zero, List.set_cons_succ])
      refine wpAnyM_done (by kernel_rfl) ?_ _
      go_wp2_with fail
      go_roundw
      case rel =>
        refine ⟨q + 1, by omega, by omega, by go_num, _, _, rfl, rfl, Lib.hid ?_⟩
        rw [show q + 1 - i = n + 1 by have := HQN.out; omega]
        refine ⟨?_, kp4, ?_, HO26.out.congr (snoc_fun (n := n) (L := atX f i i) (by simp only [atX]; rw [HQN.out])), ?_⟩
        · rw [show (h || orB (atB f i i) (n + 1)) = (h || orB (atB f i i) n || mulH (uV f i q) (f (276 + q)) 30) from by simp [orB, atB, HQN.out, Bool.or_assoc]]
          exact ((((HU3.out.then HB4.out).trans HU5.out).alloc _).then' HG6.out)
        · refine Own.grown (((HO13.out.below HB4.out).upd HU5.out hcb).alloc _) HGR.out (fun k hk e => ?_)
          have hk' : g1 = k := by simpa [Value.ownBlock] using hk
          subst hk'
          exact HNG.out e
        · intro g hg e
          have hg' : g1 = g := by simpa [Value.ownBlock] using hg
          have he' : g2 = g := by simpa [Value.ownBlock] using e
          subst hg'
          subst he'
          rcases HAT.out with e | e
          · exact HNG.out e
          · omega
      case measure => simp [intOf]; omega
    · obtain rfl : q = 24 := by omega
      rw [show ((24 : Nat) : Int) = 24 from rfl]
      obtain ⟨gu, cu, rfl, hBu, hlu, hcu⟩ := R.out.ou.slc (by omega)
      obtain ⟨gx, cx, rfl, hBx, hlx, hcx⟩ := R.out.ox.slc (by omega)
      have U1 := Lib.hid R.out.upd
      have c1 := U1.out.cellc HC.out
      have f1 := (U1.out.frozen hcb).trans HF.out
      have DC := Lib.hid (rdot_any c _ (atU f i i) (atX f i i) gu 0 cu gx 0 cx (24 - i) wr c1 f1 (by omega) hcu hcx)
      clear R hcu hcx
      go_wp2_with (go_at_call 40; (refine DC.out.mono ?_); rintro e w3 ⟨rfl, hu3⟩)
      go_ret
      exact ⟨rfl, U1.out.trans hu3⟩
end Go.Proofs.Ytokcdlcmamdloaa
