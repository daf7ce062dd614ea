/- Contracts of the program's functions and plain laws, part 10: they hold for all arguments. -/
import Derived.Test.YtipkdkeacdmnaaaQ09
import Derived.Test.YtipkdkeacdmnaaaQ07
import Derived.Outline
import Derived.Test.YtipkdkeacdmnaaaQ08
import Derived.Test.YtipkdkeacdmnaaaQ05
import Derived.ChangeKeysEq
import Derived.Laws.StructEq
/- Contract of tri.At: a number of the covariance. -/
namespace Go.Proofs.Ytipkdkeacdmnaaa
open Go.RowKit
set_option maxRecDepth 100000
structure AtR (c : Addr) (h : Bool) (f : Nat → Int) (i j m : Nat) (u x : Value) (n : Nat) (w wr : World) : Prop where
  upd : Upd c (h || orB (atB f j m) n) w wr
  blk : Blk wr w.heap.size 25 300 f
  ou : Own wr (w.heap.size + 1) 2 u n (atU f i m)
  ox : Own wr (w.heap.size + 1) 2 x n (atX f j m)
  ne : ∀ g, u.ownBlock = some g → x.ownBlock ≠ some g
theorem ownBlock_lt {w : World} {B T : Nat} {v : Value} {n : Nat} {L : Nat → Int} (h : Own w B T v n L) {g : Nat} (e : v.ownBlock = some g) : B ≤ g ∧ g < w.heap.size := World.ownsRow.lt h g e
theorem snoc_fun {n : Nat} {L : Nat → Int} {y : Int} (e : y = L n) : ∀ i, i < n + 1 → upd L n y i = L i := fun i _ => by
  unfold upd; split
  · rename_i h; rw [h, e]
  · rfl
set_option maxHeartbeats 4000000 in
theorem at_any (c : Addr) (h : Bool) (f : Nat → Int) (i j : Nat) (w : World) (hc : w.cell? c = some (.bool h)) (hf : w.frozen? c = false) (hi : i < 24) (hj : j < 24) :
    Calls Try.prog 10 #[.pointer (some c), .agg (arrv 300 f), .int .i64 i, .int .i64 j] w fun e w' => e = .returned (.int .i64 (atV f i j)) ∧ Upd c (h || atH f i j) w w' := by
  have hcb := World.block_lt_of_cell? w c hc
  have HC := Lib.hid hc
  have HF := Lib.hid hf
  clear hc hf
  obtain ⟨m, hm⟩ : ∃ m, max i j = m := ⟨_, rfl⟩
  have hm24 : m < 24 := by omega
  have ev : atV f i j = dotV 30 (atU f i m) (atX f j m) (24 - m) := by unfold atV; rw [hm]
  have eh : (h || atH f i j) = (h || orB (atB f j m) (24 - m) || dotH 30 (atU f i m) (atX f j m) (24 - m)) := by unfold atH; rw [hm, Bool.or_assoc]
  rw [ev, eh]
  clear ev eh
  go_enter Try.func10, Try.ntmps10
  go_wp2_with fail
  go_loopw [9, 10, 11] (fun u x k wr => ∃ q : Nat, m ≤ q ∧ q ≤ 24 ∧ k = .int .i64 (q : Int) ∧ Hid (AtR c h f i j m u x (q - m) w wr)) (fun _ _ k _ => 24 - (intOf k).toNat)
  case atStart =>
    refine ⟨m, Nat.le_refl _, by omega, by congr 1; omega, ?_⟩
    rw [Nat.sub_self]
    refine ⟨?_, Blk.new w _ _ _, Own.nil _ _ _ _, Own.nil _ _ _ _, fun g hg => by cases hg⟩
    rw [show (h || orB (atB f j m) 0) = h from by simp [orB]]
    exact Upd.then (Upd.refl HC.out) (by (repeat (first | with_reducible exact Below.refl _ _ | with_reducible apply Below.drew | (with_reducible refine below_drewN ?_ _) | (with_reducible refine Below.alloc ?_ (by (try simp) <;> omega) _) | (with_reducible refine Below.setCell ?_ (by (try simp) <;> omega) _))))
  case round =>
    obtain ⟨q, hmq, hq24, rfl, R⟩ := hrel
    by_cases hlt : q < 24
    · obtain ⟨n, hn⟩ : ∃ n, q - m = n := ⟨_, rfl⟩
      rw [hn] at R
      have hqn : m + n = q := by omega
      have hn24 : n ≤ 24 := by omega
      have HQN := Lib.hid hqn
      clear hn hqn
      have d1 : decide ((q : Int) < 24) = true := by simp; omega
      have PB := R.out.blk
      have U1 := Lib.hid R.out.upd
      have O1 := Lib.hid R.out.ou
      have O2 := Lib.hid R.out.ox
      have NE := Lib.hid R.out.ne
      have hbl := PB.lt
      clear R
      go_upto_region 8 with (first | (refine wpList_load_row rfl 25 _ rfl w.heap.size rfl 25 _ (0, 0) _ PB Try.underlying25 rfl (icov.trans (by rw [arrv_size])) ?_) | (go_at_call 29; (refine (u_any f i q _ hi hlt).mono ?_); rintro e w2 ⟨rfl, hb2⟩; have HB2 := Lib.hid hb2; have hz2 := hb2.size; clear hb2) | (refine wpList_app1 rfl (.tmp 29) (.tmp 34) rfl (w.heap.size + 1) rfl ((O1.out.below HB2.out).alloc _) w2.heap.size 1 (uV f i q) rfl (by simp [go_sem]) (by omega) (by simp; omega) (w2.heap.size + 1) (by simp) ?_; intro g1 cp1 w3 hO1 hg1 hat1 hlt1; have HO1 := Lib.hid hO1; have HG1 := Lib.hid hg1; have HA1 := Lib.hid hat1; clear hO1 hg1 hat1))
      have hA2 : Below wr.heap.size wr (w2.alloc (.cells #[.int .i64 (uV f i q)] 2)) := HB2.out.alloc hz2 _
      have hG : Below (w.heap.size + 1) wr w3 := below_grown (hA2.mono (by omega)) HG1.out (fun k hk => (ownBlock_lt O1.out hk).1) (by simp; omega)
      have hz3 : wr.heap.size ≤ w3.heap.size := hG.size
      have PB3 : w3.heap[w.heap.size]? = some (.cells (arrv 300 f) 25 (0, 0)) := (hG.block _ (by omega)).trans PB
      have U3 := U1.out.then' (hG.mono (by omega))
      have c3 := U3.cellc HC.out
      have f3 := (U3.frozen hcb).trans HF.out
      have O23 : Own w3 (w.heap.size + 1) 2 u10 n (atX f j m) := ((O2.out.below hA2)).grown HG1.out (fun k hk e => NE.out k e.symm.symm hk)
      have NG : u10.ownBlock ≠ some g1 := by
        rcases HA1.out with e | e
        · exact NE.out g1 e
        · intro e2
          have := (ownBlock_lt O2.out e2).2
          omega
      have HO13 := Lib.hid (HO1.out.congr (snoc_fun (n := n) (L := atU f i m) (by simp only [atU]; rw [HQN.out])))
      have HO23 := Lib.hid O23
      have HU3 := Lib.hid U3
      have hq0 : (0 : Int) ≤ (q : Int) := Int.natCast_nonneg _
      have hq1 : (q : Int) < 24 := by omega
      have hl3 : w.heap.size < w3.heap.size := Blk.lt (f := f) PB3
      have HNG := Lib.hid NG
      clear PB hA2 HB2 U1 O1 O2 NE hbl hz2 HA1 HO1 O23 U3 HG1 hG NG
      refine wp_region_M (fun w' => w'.heap[w.heap.size]? = some (.cells (arrv 300 f) 25 (0, 0))) 13 (by kernel_rfl) ?_ (fun hHeld => ?_)
      · exact PB3
      refine wpAnyM_take 0 (v := ?_) rfl (by kernel_rfl) (fun _ _ _ h => h) (Or.inl ⟨by rfl, ?_⟩) (by assumption) ?_
      rotate_left
      · (intro wx hSw; (try dsimp only at hSw); go_simp; (try with_reducible rfl))
      (try simp only [Act.put, nA, nB, nC])
      refine wpAnyM_take 1 (v := ?_) rfl (by kernel_rfl) (fun _ _ _ h => h) (Or.inl ⟨by rfl, ?_⟩) (by assumption) ?_
      rotate_left
      · (intro wx hSw; (try dsimp only at hSw); go_simp; (try with_reducible rfl))
      (try simp only [Act.put, nA, nB, nC])
      refine wpAnyM_take 2 (v := ?_) rfl (by kernel_rfl) (fun _ _ _ h => h) (Or.inl ⟨by rfl, ?_⟩) (by assumption) ?_
      rotate_left
      · (intro wx hSw; refine Eq.trans (run_load_row 25 (.tmp 5) (by rfl) (w.heap.size) (by rfl) _ _ _ _ (hSw) Try.underlying25 rfl (icov.trans (by rw [arrv_size]))) ?_; with_reducible rfl)
      (try simp only [Act.put, nA, nB, nC])
      refine wpAnyM_take 3 (v := ?_) rfl (by kernel_rfl) (fun _ _ _ h => h) (Or.inl ⟨by rfl, ?_⟩) (by assumption) ?_
      rotate_left
      · (intro wx hSw; (try dsimp only at hSw); go_simp; (try with_reducible rfl))
      (try simp only [Act.put, nA, nB, nC])
      refine wpAnyM_take 4 (v := ?_) rfl (by kernel_rfl) (fun _ _ _ h => h) (Or.inl ⟨by rfl, ?_⟩) (by assumption) ?_
      rotate_left
      · (intro wx hSw; (try dsimp only at hSw); go_simp; (try with_reducible rfl))
      (try simp only [Act.put, nA, nB, nC])
      refine wpAnyM_take 6 (v := ?_) rfl (by kernel_rfl) (fun _ _ _ h => h) (Or.inl ⟨by rfl, ?_⟩) (by assumption) ?_
      rotate_left
      · (intro wx hSw; (try dsimp only at hSw); go_simp; (try with_reducible rfl))
      (try simp only [Act.put, nA, nB, nC])
      refine wpAnyM_take 7 (v := ?_) rfl (by kernel_rfl) (fun _ _ _ h => h) (Or.inl ⟨by rfl, ?_⟩) (by assumption) ?_
      rotate_left
      · (intro wx hSw; (try dsimp only at hSw); go_simp; (try with_reducible rfl))
      (try simp only [Act.put, nA, nB, nC])
      refine wpAnyM_take 8 (v := ?_) rfl (by kernel_rfl) (fun _ _ _ h => h) (Or.inl ⟨by rfl, ?_⟩) (by assumption) ?_
      rotate_left
      · (intro wx hSw; (try dsimp only at hSw); go_simp; (try with_reducible rfl))
      (try simp only [Act.put, nA, nB, nC])
      refine wpAnyM_take 9 (v := ?_) rfl (by kernel_rfl) (fun _ _ _ h => h) (Or.inl ⟨by rfl, ?_⟩) (by assumption) ?_
      rotate_left
      · (intro wx hSw; have hq := Blk.cell (f := f) (i := 276 + q) hSw (by omega); go_simp; (try with_reducible rfl))
      (try simp only [Act.put, nA, nB, nC])
      refine wpAnyM_oneS 5 rfl (by kernel_rfl) (fun K hK => ?_)
      go_simp
      (refine (u_any f j q _ hj hlt).mono ?_); rintro e w4 ⟨rfl, hb4⟩; have HB4 := Lib.hid (Below.after (Below.drew (Below.refl w3.heap.size w3)) hb4); have kp := (HB4.out.block w.heap.size (by omega)).trans PB3; have hz4 := HB4.out.size; have c4 := (HB4.out.cell (World.block_lt_of_cell? _ _ c3)).trans c3; have f4 := (HB4.out.frozen (World.block_lt_of_cell? _ _ c3)).trans f3; clear hb4
      (try dsimp only)
      (try simp only [Act.put, nA, nB, nC])
      clear hHeld
      refine hK.out _ _ ?_ (fun hHeld => ?_)
      · exact kp
      clear hK K
      (try simp only [Act.put, nA, nB, nC])
      refine wpAnyM_oneS 10 rfl (by kernel_rfl) (fun K hK => ?_)
      go_simp
      (refine (fmul_any c _ (uV f j q) (f (276 + q)) 30 _ c4 f4).mono ?_); rintro e w5 ⟨rfl, hu5⟩; have kp2 := (hu5.block (k := w.heap.size) (by omega) (by omega)).trans kp; have HU5 := Lib.hid hu5; have hz5 := hu5.size; have kp3 : ∀ o, (w5.alloc o).heap[w.heap.size]? = some (.cells (arrv 300 f) 25 (0, 0)) := (fun o => Blk.alloc (show Blk w5 w.heap.size 25 300 f from kp2) o); have O25 := Lib.hid (((HO23.out.below HB4.out).upd HU5.out (by omega)).alloc (.cells #[.int .i64 (mulV (uV f j q) (f (276 + q)) 30)] 2)); clear hu5
      (try dsimp only)
      (try simp only [Act.put, nA, nB, nC])
      clear hHeld
      refine hK.out _ _ ?_ (fun hHeld => ?_)
      · exact kp2
      clear hK K
      (try simp only [Act.put, nA, nB, nC])
      refine wpAnyM_oneS 11 rfl (by kernel_rfl) (fun K hK => ?_)
      go_simp
      clear hHeld
      refine hK.out _ _ ?_ (fun hHeld => ?_)
      · exact kp3 _
      clear hK K
      (try simp only [Act.put, nA, nB, nC])
      refine wpAnyM_oneS 12 rfl (by kernel_rfl) (fun K hK => ?_)
      refine step_app1 rfl (.tmp 36) (.tmp 47) rfl (w.heap.size + 1) rfl O25.out w5.heap.size 1 (mulV (uV f j q) (f (276 + q)) 30) rfl (by simp [go_sem]) (by omega) (by simp; omega) (w5.heap.size + 1) (by simp) ?_; intro g2 cp2 w6 hO2 hg2 hat2 hlt2; have HG6 := Lib.hid (below_grown (Below.refl (w.heap.size + 1) (w5.alloc (.cells #[.int .i64 (mulV (uV f j q) (f (276 + q)) 30)] 2))) hg2 (fun k hk => (ownBlock_lt O25.out hk).1) (by simp; omega)); have kp4 := (HG6.out.block w.heap.size (by omega)).trans (kp3 _); have HO26 := Lib.hid hO2; have HGR := Lib.hid hg2; have HAT := Lib.hid hat2; clear hO2 hg2 hat2
      clear hHeld
      refine hK.out _ _ ?_ (fun hHeld => ?_)
      · exact kp4
      clear hK K
      (try simp only [Act.put, nA, nB, nC])
      refine wpAnyM_one 13 rfl (by kernel_rfl) (fun K hK => ?_)
      go_simp
      refine hK.out _ _ (.inl (by kernel_rfl)) (fun _ => ?_)
      clear hK K
      (try simp only [Act.put, nA, nB, nC])
      refine wpAnyM_done (by kernel_rfl) ?_ _
      go_wp2_with fail
      go_roundw
      case rel =>
        have hcb' : c.block < w.heap.size + 1 := by omega
        refine ⟨q + 1, by omega, by omega, by go_num, ?_⟩
        rw [show q + 1 - m = n + 1 by have := HQN.out; omega]
        refine ⟨?_, kp4, ?_, HO26.out.congr (snoc_fun (n := n) (L := atX f j m) (by simp only [atX]; rw [HQN.out])), ?_⟩
        · rw [show (h || orB (atB f j m) (n + 1)) = (h || orB (atB f j m) n || mulH (uV f j q) (f (276 + q)) 30) from by simp [orB, atB, HQN.out, Bool.or_assoc]]
          exact ((((HU3.out.then HB4.out).trans HU5.out).alloc _).then' (HG6.out.mono (by omega)))
        · refine Own.grown (((HO13.out.below HB4.out).upd HU5.out hcb').alloc _) HGR.out (fun k hk e => ?_)
          have hk' : g1 = k := by simpa [Value.ownBlock] using hk
          subst hk'
          exact HNG.out e
        · intro g hg e
          have hg' : g1 = g := by simpa [Value.ownBlock] using hg
          have he' : g2 = g := by simpa [Value.ownBlock] using e
          subst hg'
          subst he'
          rcases HAT.out with e | e
          · exact HNG.out e
          · omega
      case measure => simp [intOf]; omega
    · obtain rfl : q = 24 := by omega
      rw [show ((24 : Nat) : Int) = 24 from rfl]
      obtain ⟨gu, cu, rfl, hBu, hlu, hcu⟩ := R.out.ou.slc (by omega)
      obtain ⟨gx, cx, rfl, hBx, hlx, hcx⟩ := R.out.ox.slc (by omega)
      have U1 := Lib.hid R.out.upd
      have c1 := U1.out.cellc HC.out
      have f1 := (U1.out.frozen hcb).trans HF.out
      have DC := Lib.hid (dot_any c _ 30 (atU f i m) (atX f j m) gu 0 cu gx 0 cx (24 - m) wr c1 f1 (by decide) (by decide) (by omega) hcu hcx)
      clear R hcu hcx
      go_wp2_with (go_at_call 11; (refine DC.out.mono ?_); rintro e w3 ⟨rfl, hu3⟩)
      go_ret
      exact ⟨rfl, U1.out.trans hu3⟩
end Go.Proofs.Ytipkdkeacdmnaaa
/- Contract of block.Forget. -/
namespace Go.Proofs.Ytipkdkeacdmnaaa
open Go.RowKit
set_option maxRecDepth 100000
/-- Is the k-th number a state that is not forgotten yet? -/
def fgI (F : Nat → Int) (x : Int) : Bool := decide (0 ≤ x ∧ x < 24) && decide (F (x.toNat * 24 + x.toNat) ≠ 0)
def fgF (L : Nat → Int) : Nat → Nat → Int | 0 => oneF | k + 1 => if fgI (fgF L k) (L k) = true then upd (fgF L k) ((L k).toNat * 24 + (L k).toNat) 0 else fgF L k
def fgQ (f L : Nat → Int) : Nat → Nat → Int | 0 => fun _ => 0 | k + 1 => if fgI (fgF L k) (L k) = true then upd (fgQ f L k) (L k).toNat (varV (atV f (L k).toNat (L k).toNat)) else fgQ f L k
def fgB (f L : Nat → Int) (k : Nat) : Bool := if fgI (fgF L k) (L k) = true then atH f (L k).toNat (L k).toNat || varH (atV f (L k).toNat (L k).toNat) else false
set_option maxHeartbeats 4000000 in
theorem forget_any (c : Addr) (h : Bool) (f : Nat → Int) (p : Option Addr) (n cp : Nat) (L : Nat → Int) (w : World) (hc : w.cell? c = some (.bool h)) (hf : w.frozen? c = false) (hL : Slc w p n L) (hn : n ≤ 1000000) :
    Calls Try.prog 17 #[.pointer (some c), .agg (arrv 300 f), .slice p n cp] w fun e w' =>
      e = .returned (.agg (arrv 300 (stepF f (fgF L n) (fgQ f L n)))) ∧ Upd c (h || orB (fgB f L) n || stepH f (fgF L n) (fgQ f L n)) w w' := by
  have hcb := World.block_lt_of_cell? w c hc
  have HC := Lib.hid hc
  have HF := Lib.hid hf
  have HL := Lib.hid hL
  clear hc hf hL
  go_enter Try.func17, Try.ntmps17
  obtain ⟨W0, hW0⟩ : ∃ x, (w.alloc (.cells (arrv 300 f) 25)).alloc (.cells Try.zeroCells25 25) = x := ⟨_, rfl⟩
  have P0 : Blk W0 w.heap.size 25 300 f := by rw [← hW0]; exact (Blk.new w _ _ _).alloc _
  have Z0 : Blk W0 (w.heap.size + 1) 25 300 (fun _ => 0) := by rw [← hW0, zcov]; exact Blk.new1 w _ _ _ _
  have U0 : Upd c h w W0 := by rw [← hW0]; exact Upd.then (Upd.refl HC.out) (by (repeat (first | with_reducible exact Below.refl _ _ | with_reducible apply Below.drew | (with_reducible refine below_drewN ?_ _) | (with_reducible refine Below.alloc ?_ (by (try simp) <;> omega) _) | (with_reducible refine Below.setCell ?_ (by (try simp) <;> omega) _))))
  have hz0 := Z0.lt
  go_upto_region 1 with fail
  (try rw [hW0])
  go_upto_region 2 with (first | (go_at_call 12; (refine (one_any _).mono ?_); rintro e w1 ⟨rfl, hb1⟩; have P1 := Lib.hid (P0.below hb1); have Z1 := Lib.hid (Z0.below hb1); have U1 := Lib.hid (U0.then hb1); have R1 : Blk (w1.alloc (.cells Try.zeroCells27 27)) w1.heap.size 27 576 (fun _ => 0) := (by rw [zmat]; exact Blk.new _ _ _ _); clear hb1) | (refine wpList_store_row rfl 27 _ _ rfl (w1.heap.size) _ rfl rfl 27 _ (R1) (imat.trans (by rw [arrv_size])) (by rw [arrv_size, arrv_size]) (oneCell_arrv _ _) ?_))
  obtain ⟨w2, hw2⟩ : ∃ x, x = ((w1.alloc (.cells Try.zeroCells27 27)).setRow w1.heap.size (arrv 576 oneF)) := ⟨_, rfl⟩
  rw [← hw2]
  obtain ⟨M2, MB⟩ := Blk.made zmat oneF hw2
  obtain ⟨bf, hbf⟩ : ∃ x, w1.heap.size = x := ⟨_, rfl⟩
  obtain ⟨bq, hbq⟩ : ∃ x, w2.heap.size = x := ⟨_, rfl⟩
  have h1 : w.heap.size + 1 < bf := by rw [← hbf]; exact Z1.out.lt
  rw [hbf] at M2 ⊢
  have h2 : bf < bq := by rw [← hbq]; exact M2.lt
  have S2 : RtR c h bf bq f oneF (fun _ => 0) w (w2.alloc (.cells #[.int .i64 0, .int .i64 0, .int .i64 0, .int .i64 0, .int .i64 0, .int .i64 0, .int .i64 0, .int .i64 0, .int .i64 0, .int .i64 0, .int .i64 0, .int .i64 0, .int .i64 0, .int .i64 0, .int .i64 0, .int .i64 0, .int .i64 0, .int .i64 0, .int .i64 0, .int .i64 0, .int .i64 0, .int .i64 0, .int .i64 0, .int .i64 0] 23)) :=
    ⟨(U1.out.then MB).alloc _, (P1.out.below MB).alloc _, (Z1.out.below MB).alloc _, M2.alloc _, by rw [zcol, ← hbq]; exact Blk.new w2 _ _ _⟩
  have S2 := Lib.hid S2
  clear P0 Z0 U0 hz0 R1 hw2 M2 MB P1 Z1 U1 hW0 hbf
  go_upto_region 3 with fail
  (try rw [hbq])
  generalize w2.alloc (.cells #[.int .i64 0, .int .i64 0, .int .i64 0, .int .i64 0, .int .i64 0, .int .i64 0, .int .i64 0, .int .i64 0, .int .i64 0, .int .i64 0, .int .i64 0, .int .i64 0, .int .i64 0, .int .i64 0, .int .i64 0, .int .i64 0, .int .i64 0, .int .i64 0, .int .i64 0, .int .i64 0, .int .i64 0, .int .i64 0, .int .i64 0, .int .i64 0] 23) = W3 at *
  clear hbq
  go_wp2_with fail
  go_loopw [14] (fun i wr => ∃ k : Nat, k ≤ n ∧ i = .int .i64 k ∧ Hid (RtR c (h || orB (fgB f L) k) bf bq f (fgF L k) (fgQ f L k) w wr)) (fun i _ => n - (intOf i).toNat)
  case atStart =>
    refine ⟨0, by omega, rfl, ?_⟩
    rw [show (h || orB (fgB f L) 0) = h from by simp [orB]]
    exact S2
  case round =>
    obtain ⟨k, hk, rfl, R⟩ := hrel
    by_cases hkn : k < n
    · have d1 : decide ((k : Int) < (n : Int)) = true := by simp; omega
      obtain ⟨pb, po, rfl, hcell⟩ := HL.out k hkn
      have hne : (⟨pb, po + k, none⟩ : Addr) ≠ c := fun e => by rw [e, HC.out] at hcell; cases hcell
      have hpl := World.block_lt_of_cell? _ _ hcell
      have hcell' : wr.cell? ⟨pb, po + k, none⟩ = some (.int .i64 (L k)) := (R.out.upd.cell hpl (Ne.symm hne)).trans hcell
      obtain ⟨x, hx⟩ : ∃ x, L k = x := ⟨_, rfl⟩
      rw [hx] at hcell'
      by_cases hin : 0 ≤ x ∧ x < 24
      · obtain ⟨i, rfl⟩ : ∃ i : Nat, x = (i : Int) := ⟨x.toNat, by omega⟩
        have hi : i < 24 := by omega
        have q1 : decide ((0 : Int) ≤ (i : Int) ∧ (i : Int) < 24) = true := by simp; omega
        have m0 := R.out.fB.cell (i := i * 24 + i) (by omega)
        by_cases hz : fgF L k (i * 24 + i) = 0
        · rw [hz] at m0
          have q2 : ((0 : Int) != 0) = false := by simp
          have qI : ¬ fgI (fgF L k) (L k) = true := by unfold fgI; rw [hx, Int.toNat_natCast, hz]; simp
          have EK := Lib.hid qI
          clear hcell hx hpl hne S2 qI
          go_wp2_with (go_at_call 33; (refine (is_any (i : Int) _).mono ?_); rintro e w5 ⟨rfl, rfl⟩; (rw [q1]))
          go_roundw
          case rel =>
            refine ⟨k + 1, by omega, by go_num, ?_⟩
            rw [show (h || orB (fgB f L) (k + 1)) = (h || orB (fgB f L) k) from by simp only [orB, fgB]; rw [if_neg EK.out, Bool.or_false], show fgF L (k + 1) = fgF L k from by simp only [fgF]; rw [if_neg EK.out], show fgQ f L (k + 1) = fgQ f L k from by simp only [fgQ]; rw [if_neg EK.out]]
            exact R
          case measure => simp [intOf]; omega
        · have qI : fgI (fgF L k) (L k) = true := by unfold fgI; rw [hx, Int.toNat_natCast, q1]; simp [hz]
          obtain ⟨FV, hFV⟩ : ∃ y, fgF L k (i * 24 + i) = y := ⟨_, rfl⟩
          rw [hFV] at m0 hz
          have q2 : (FV != 0) = true := by simpa using hz
          obtain ⟨HK, hHK⟩ : ∃ y, (h || orB (fgB f L) k) = y := ⟨_, rfl⟩
          obtain ⟨AV, hAV⟩ : ∃ y, atV f i i = y := ⟨_, rfl⟩
          obtain ⟨AH, hAH⟩ : ∃ y, atH f i i = y := ⟨_, rfl⟩
          rw [hHK] at R
          have HR := Lib.hid R.out
          have qn : (L k).toNat = i := by rw [hx]; simp
          have EK := Lib.hid (And.intro hHK (And.intro qI (And.intro qn (And.intro hAV hAH))))
          have AC := Lib.hid (at_any c HK f i i wr.drew (by exact R.out.upd.cellc HC.out) (by exact (R.out.upd.frozen hcb).trans HF.out) hi hi)
          rw [hAV, hAH] at AC
          have PB := Lib.hid R.out.pB
          go_upto_region 7 with (go_at_call 33; (refine (is_any (i : Int) _).mono ?_); rintro e w5 ⟨rfl, rfl⟩; (rw [q1]))
          clear R hHK qI qn hcell hcell' hx q1 q2 hpl hne S2 hFV hAV hAH m0 hz
          refine wp_region_M (fun w' => Blk w' w.heap.size 25 300 f) 14 (by kernel_rfl) ?_ (fun hHeld => ?_)
          · exact PB.out
          refine wpAnyM_take 0 (v := ?_) rfl (by kernel_rfl) (fun _ _ _ h => h) (Or.inl ⟨by rfl, ?_⟩) (by assumption) ?_
          rotate_left
          · (intro wx hSw; (try dsimp only at hSw); go_simp; (try with_reducible rfl))
          (try simp only [Act.put, nA, nB, nC])
          refine wpAnyM_take 1 (v := ?_) rfl (by kernel_rfl) (fun _ _ _ h => h) (Or.inl ⟨by rfl, ?_⟩) (by assumption) ?_
          rotate_left
          · (intro wx hSw; (try dsimp only at hSw); go_simp; (try with_reducible rfl))
          (try simp only [Act.put, nA, nB, nC])
          refine wpAnyM_take 2 (v := ?_) rfl (by kernel_rfl) (fun _ _ _ h => h) (Or.inl ⟨by rfl, ?_⟩) (by assumption) ?_
          rotate_left
          · (intro wx hSw; (try dsimp only at hSw); go_simp; (try with_reducible rfl))
          (try simp only [Act.put, nA, nB, nC])
          refine wpAnyM_take 3 (v := ?_) rfl (by kernel_rfl) (fun _ _ _ h => h) (Or.inl ⟨by rfl, ?_⟩) (by assumption) ?_
          rotate_left
          · (intro wx hSw; (try dsimp only at hSw); go_simp; (try with_reducible rfl))
          (try simp only [Act.put, nA, nB, nC])
          refine wpAnyM_take 4 (v := ?_) rfl (by kernel_rfl) (fun _ _ _ h => h) (Or.inl ⟨by rfl, ?_⟩) (by assumption) ?_
          rotate_left
          · (intro wx hSw; (try dsimp only at hSw); go_simp; (try with_reducible rfl))
          (try simp only [Act.put, nA, nB, nC])
          refine wpAnyM_take 5 (v := ?_) rfl (by kernel_rfl) (fun _ _ _ h => h) (Or.inl ⟨by rfl, ?_⟩) (by assumption) ?_
          rotate_left
          · (intro wx hSw; refine Eq.trans (run_load_row 25 (.tmp 4) (by rfl) (w.heap.size) (by rfl) _ _ _ _ (hSw) Try.underlying25 rfl (icov.trans (by rw [arrv_size]))) ?_; with_reducible rfl)
          (try simp only [Act.put, nA, nB, nC])
          refine wpAnyM_take 6 (v := ?_) rfl (by kernel_rfl) (fun _ _ _ h => h) (Or.inl ⟨by rfl, ?_⟩) (by assumption) ?_
          rotate_left
          · (intro wx hSw; (try dsimp only at hSw); go_simp; (try with_reducible rfl))
          (try simp only [Act.put, nA, nB, nC])
          refine wpAnyM_take 7 (v := ?_) rfl (by kernel_rfl) (fun _ _ _ h => h) (Or.inl ⟨by rfl, ?_⟩) (by assumption) ?_
          rotate_left
          · (intro wx hSw; (try dsimp only at hSw); go_simp; (try with_reducible rfl))
          (try simp only [Act.put, nA, nB, nC])
          refine wpAnyM_take 10 (v := ?_) rfl (by kernel_rfl) (fun _ _ _ h => h) (Or.inl ⟨by rfl, ?_⟩) (by assumption) ?_
          rotate_left
          · (intro wx hSw; (try dsimp only at hSw); go_simp; (first | rw [if_pos (by omega)] | rw [if_pos ⟨by omega, by omega⟩] | skip); (try with_reducible rfl))
          (try simp only [Act.put, nA, nB, nC])
          refine wpAnyM_take 11 (v := ?_) rfl (by kernel_rfl) (fun _ _ _ h => h) (Or.inl ⟨by rfl, ?_⟩) (by assumption) ?_
          rotate_left
          · (intro wx hSw; (try dsimp only at hSw); go_simp; (first | rw [if_pos (by omega)] | rw [if_pos ⟨by omega, by omega⟩] | skip); (try with_reducible rfl))
          (try simp only [Act.put, nA, nB, nC])
          refine wpAnyM_oneS 8 rfl (by kernel_rfl) (fun K hK => ?_)
          go_simp
          (refine AC.out.mono ?_); rintro e w5 ⟨rfl, hu5⟩; have R5 := Lib.hid (HR.out.upd' hcb h1 h2 (Upd.after (Below.drew (Below.refl _ _)) hu5)); clear hu5
          (try dsimp only)
          (try simp only [Act.put, nA, nB, nC])
          clear hHeld
          refine hK.out _ _ ?_ (fun hHeld => ?_)
          · exact R5.out.pB
          clear hK K
          (try simp only [Act.put, nA, nB, nC])
          refine wpAnyM_oneS 9 rfl (by kernel_rfl) (fun K hK => ?_)
          go_simp
          (refine (bvar_any c (HK || AH) AV w5 (R5.out.upd.cellc HC.out) ((R5.out.upd.frozen hcb).trans HF.out)).mono ?_); rintro e w6 ⟨rfl, hw6⟩; have R6 := Lib.hid (R5.out.upd' hcb h1 h2 ((Upd.set c (HK || AH || varH AV) w5).then (by rw [hw6]; exact Below.refl _ _))); have n0 := R6.out.fB.cell (i := i * 24 + i) (by omega); have n1 := R6.out.fB.free (i * 24 + i); have n2 := (R6.out.qB.other (a := ⟨bf, i * 24 + i, none⟩) (by simp; omega) (.int .i64 0)).cell (i := i) hi; have n3 := (R6.out.qB.other (a := ⟨bf, i * 24 + i, none⟩) (by simp; omega) (.int .i64 0)).free i; clear hw6
          (try dsimp only)
          (try simp only [Act.put, nA, nB, nC])
          clear hHeld
          refine hK.out _ _ ?_ (fun hHeld => ?_)
          · exact R6.out.pB
          clear hK K
          (try simp only [Act.put, nA, nB, nC])
          refine wpAnyM_oneS 12 rfl (by kernel_rfl) (fun K hK => ?_)
          go_simp
          clear hHeld
          refine hK.out _ _ ?_ (fun hHeld => ?_)
          · exact R6.out.pB.other (by simp; omega) _
          clear hK K
          (try simp only [Act.put, nA, nB, nC])
          refine wpAnyM_take 13 (v := ?_) rfl (by kernel_rfl) (fun _ _ _ h => h) (Or.inl ⟨by rfl, ?_⟩) (by assumption) ?_
          rotate_left
          · (intro wx hSw; (try dsimp only at hSw); go_simp; (first | rw [if_pos (by omega)] | rw [if_pos ⟨by omega, by omega⟩] | skip); (try with_reducible rfl))
          (try simp only [Act.put, nA, nB, nC])
          refine wpAnyM_one 14 rfl (by kernel_rfl) (fun K hK => ?_)
          go_simp
          refine hK.out _ _ (.inl (by kernel_rfl)) (fun _ => ?_)
          clear hK K
          (try simp only [Act.put, nA, nB, nC])
          refine wpAnyM_done (by kernel_rfl) ?_ _
          have R7 := Lib.hid (R6.out.setFQ h1 h2 (i * 24 + i) i 0 (varV AV))
          generalize (w6.setCell ⟨bf, i * 24 + i, none⟩ (.int .i64 0)).setCell ⟨bq, i, none⟩ (.int .i64 (varV AV)) = W7 at *
          clear n0 n1 n2 n3 R5 R6 HR AC PB
          (try clear hHeld)
          go_wp2_with fail
          go_roundw
          case rel =>
            obtain ⟨e1, e2, e3, e4, e5⟩ := EK.out
            refine ⟨k + 1, by omega, by go_num, ?_⟩
            rw [show (h || orB (fgB f L) (k + 1)) = (HK || AH || varH AV) from by simp only [orB, fgB]; rw [if_pos e2, e3, e4, e5, ← e1]; simp [Bool.or_assoc], show fgF L (k + 1) = Go.Proofs.Ytipkdkeacdmnaaa.upd (fgF L k) (i * 24 + i) 0 from by simp only [fgF]; rw [if_pos e2, e3], show fgQ f L (k + 1) = Go.Proofs.Ytipkdkeacdmnaaa.upd (fgQ f L k) i (varV AV) from by simp only [fgQ]; rw [if_pos e2, e3, e4]]
            exact R7
          case measure => simp [intOf]; omega
      · have q1 : decide ((0 : Int) ≤ x ∧ x < 24) = false := by simpa using hin
        have qI : ¬ fgI (fgF L k) (L k) = true := by unfold fgI; rw [hx, q1]; simp
        have EK := Lib.hid qI
        clear hcell hx hpl hne S2 qI
        go_wp2_with (go_at_call 33; (refine (is_any x _).mono ?_); rintro e w5 ⟨rfl, rfl⟩; (rw [q1]))
        go_roundw
        case rel =>
          refine ⟨k + 1, by omega, by go_num, ?_⟩
          rw [show (h || orB (fgB f L) (k + 1)) = (h || orB (fgB f L) k) from by simp only [orB, fgB]; rw [if_neg EK.out, Bool.or_false], show fgF L (k + 1) = fgF L k from by simp only [fgF]; rw [if_neg EK.out], show fgQ f L (k + 1) = fgQ f L k from by simp only [fgQ]; rw [if_neg EK.out]]
          exact R
        case measure => simp [intOf]; omega
    · have hkn2 : k = n := by omega
      subst hkn2
      have d1 : decide ((k : Int) < (k : Int)) = false := by simp
      have P1 := R.out.pB
      have P2 := R.out.fB
      have P3 := R.out.qB
      have SC := Lib.hid (step_any c _ f (fgF L k) (fgQ f L k) wr (R.out.upd.cellc HC.out) ((R.out.upd.frozen hcb).trans HF.out))
      go_wp2_with (first | (refine wpList_load_row rfl 25 _ rfl (w.heap.size) rfl 25 _ (0, 0) _ (P1) Try.underlying25 rfl (icov.trans (by rw [arrv_size])) ?_) | (refine wpList_load_row rfl 27 _ rfl (bf) rfl 27 _ (0, 0) _ (P2) Try.underlying27 rfl (imat.trans (by rw [arrv_size])) ?_) | (refine wpList_load_row rfl 23 _ rfl (bq) rfl 23 _ (0, 0) _ (P3) Try.underlying23 rfl (icol.trans (by rw [arrv_size])) ?_) | (go_at_call 9; (refine SC.out.mono ?_); rintro e w8 ⟨rfl, hu8⟩; have Z8 := R.out.r0.upd hu8 (by omega); have U8 := Lib.hid (R.out.upd.trans hu8); clear hu8) | (refine wpList_store_row rfl 25 _ _ rfl (w.heap.size + 1) _ rfl rfl 25 _ (Z8) (icov.trans (by rw [arrv_size])) (by rw [arrv_size, arrv_size]) (oneCell_arrv _ _) ?_))
      refine bodyPost_ret (results_cell_row Try.results17 _ _ (w.heap.size + 1) 25 (arrv 300 (stepF f (fgF L k) (fgQ f L k))) (0, 0) _ rfl (setRow_heap _ _ _ _ _ _ Z8) Try.underlying25 rfl (icov.trans (by rw [arrv_size]))) rfl ⟨rfl, ?_⟩
      exact U8.out.then' (below_row (Below.refl _ _) (by omega) _)
end Go.Proofs.Ytipkdkeacdmnaaa
/- Begun anew: the matrix and the variances of a run of states, as plain laws have them. -/
namespace Go.Proofs.Ytipkdkeacdmnaaa
/-- The states of a run. -/
def rtR (fr : Int) (n : Nat) (i : Nat) : Bool := decide (fr ≤ i ∧ (i : Int) < fr + n ∧ i < 24)
theorem rtF_eq (fr : Int) : ∀ n, rtF fr n = rsF (rtR fr n)
  | 0 => by
    funext x
    unfold rtF oneF rsF
    have : rtR fr 0 (x / 24) = false := by unfold rtR; simp; omega
    rw [this]
    split <;> split <;> first | rfl | (simp_all; done) | omega
  | n + 1 => by
    funext x
    simp only [rtF]
    rw [rtF_eq fr n]
    by_cases hI : rtI fr n = true
    · have hb : 0 ≤ fr + n ∧ fr + n < 24 := by unfold rtI at hI; simpa using hI
      rw [if_pos hI]
      obtain ⟨i, hi⟩ : ∃ i : Nat, fr + n = (i : Int) := ⟨(fr + n).toNat, by omega⟩
      rw [hi, Int.toNat_natCast]
      have hi24 : i < 24 := by omega
      unfold Go.Proofs.Ytipkdkeacdmnaaa.upd rsF
      by_cases hx : x = i * 24 + i
      · subst hx
        rw [if_pos rfl, if_neg]
        intro h
        have h2 := h.2
        rw [show (i * 24 + i) / 24 = i by omega] at h2
        unfold rtR at h2
        simp at h2
        omega
      · rw [if_neg hx]
        have hR : x / 24 = x % 24 → rtR fr (n + 1) (x / 24) = rtR fr n (x / 24) := by
          intro hd
          have hne : x / 24 ≠ i := by omega
          unfold rtR
          rw [Bool.eq_iff_iff]
          simp
          omega
        by_cases hd : x / 24 = x % 24
        · rw [hR hd]
        · rw [if_neg (fun h => hd h.1), if_neg (fun h => hd h.1)]
    · have hb : ¬ (0 ≤ fr + n ∧ fr + n < 24) := by unfold rtI at hI; simpa using hI
      rw [if_neg hI]
      have hR : ∀ i, rtR fr (n + 1) i = rtR fr n i := by
        intro i
        unfold rtR
        rw [Bool.eq_iff_iff]
        simp
        omega
      unfold rsF
      rw [hR]
theorem rtQ_at (fr : Int) (L : Nat → Int) : ∀ n i, i < 24 → rtQ fr L n i = if rtR fr n i = true then varV (L ((i : Int) - fr).toNat) else 0
  | 0, i, hi => by
    have : rtR fr 0 i = false := by unfold rtR; simp; omega
    rw [this]; rfl
  | n + 1, i, hi => by
    simp only [rtQ]
    by_cases hI : rtI fr n = true
    · have hb : 0 ≤ fr + n ∧ fr + n < 24 := by unfold rtI at hI; simpa using hI
      rw [if_pos hI]
      unfold Go.Proofs.Ytipkdkeacdmnaaa.upd
      by_cases hx : i = (fr + (n : Int)).toNat
      · rw [if_pos hx, if_pos (by unfold rtR; simp; omega), show ((i : Int) - fr).toNat = n by omega]
      · rw [if_neg hx, rtQ_at fr L n i hi]
        have : rtR fr (n + 1) i = rtR fr n i := by unfold rtR; rw [Bool.eq_iff_iff]; simp; omega
        rw [this]
    · have hb : ¬ (0 ≤ fr + n ∧ fr + n < 24) := by unfold rtI at hI; simpa using hI
      rw [if_neg hI, rtQ_at fr L n i hi]
      have : rtR fr (n + 1) i = rtR fr n i := by unfold rtR; rw [Bool.eq_iff_iff]; simp; omega
      rw [this]
end Go.Proofs.Ytipkdkeacdmnaaa
/- Plain laws of BlockGrows and BlockOthers: the matrix and the noise that block makes, as the plain law of a step by One asks them. -/
namespace Go.Proofs.Ytipkdkeacdmnaaa
theorem gwQ_at (fr : Nat) (L : Nat → Int) : ∀ n, fr + n ≤ 24 → ∀ i, gwQ (fr : Int) L n i = if fr ≤ i ∧ i < fr + n then L (i - fr) else 0
  | 0, _, i => by rw [if_neg (by omega)]; rfl
  | n + 1, h, i => by
    have hI : rtI (fr : Int) n = true := by unfold rtI; simp; omega
    simp only [gwQ]
    rw [if_pos hI, show ((fr : Int) + (n : Int)).toNat = fr + n by omega]
    unfold Go.Proofs.Ytipkdkeacdmnaaa.upd
    by_cases e : i = fr + n
    · subst e; rw [if_pos rfl, if_pos (by omega), show fr + n - fr = n by omega]
    · rw [if_neg e, gwQ_at fr L n (by omega) i]
      by_cases h2 : fr ≤ i ∧ i < fr + n
      · rw [if_pos h2, if_pos (by omega)]
      · rw [if_neg h2, if_neg (by omega)]
theorem oneT {P0 q : Nat → Int} (hn : ∀ i, i < 24 → 0 ≤ q i ∧ q i ≤ 17592186044416) : TkH (clD P0 24) oneF q 24 where
  u := (clD_hyp P0).1
  d := (clD_hyp P0).2
  f := fun i m hi hm => by
    rw [oneF_at hm]
    by_cases h : i = m
    · rw [if_pos h, if_pos ⟨h, by omega⟩]
    · rw [if_neg h, if_neg (by omega)]
  n := fun i hi => by
    have := hn i hi
    omega
  qk := fun h => absurd h (by omega)
theorem gwT {P0 : Nat → Int} {fr n : Nat} {L : Nat → Int} (h : fr + n ≤ 24) (hL : ∀ i, i < n → 0 ≤ L i ∧ L i ≤ 17592186044416) : TkH (clD P0 24) oneF (gwQ fr L n) 24 :=
  oneT fun i hi => by
    rw [gwQ_at fr L n h]
    by_cases e : fr ≤ i ∧ i < fr + n
    · rw [if_pos e]; exact hL (i - fr) (by omega)
    · rw [if_neg e]; omega
/-- One state forgotten: the matrix. -/
def boF (k : Nat) : Nat → Int := upd oneF (k * 24 + k) 0
def boQ (k : Nat) (v : Int) : Nat → Int := upd (fun _ => 0) k v
theorem bo_rtF {k : Nat} (hk : k < 24) : rtF (k : Int) 1 = boF k := by
  have hI : rtI (k : Int) 0 = true := by unfold rtI; simp; omega
  simp only [rtF]
  rw [if_pos hI, show ((k : Int) + ((0 : Nat) : Int)).toNat = k by omega]; rfl
theorem bo_rtQ {k : Nat} (hk : k < 24) (L : Nat → Int) : rtQ (k : Int) L 1 = boQ k (varV (L 0)) := by
  have hI : rtI (k : Int) 0 = true := by unfold rtI; simp; omega
  simp only [rtQ]
  rw [if_pos hI, show ((k : Int) + ((0 : Nat) : Int)).toNat = k by omega]; rfl
theorem bo_rtB {k : Nat} (hk : k < 24) (L : Nat → Int) : orB (rtB (k : Int) L) 1 = varH (L 0) := by
  have hI : rtI (k : Int) 0 = true := by unfold rtI; simp; omega
  unfold orB orB rtB
  rw [if_pos hI]; simp
theorem bo_fgI {k : Nat} (hk : k < 24) {L : Nat → Int} (hL : L 0 = k) : fgI (fgF L 0) (L 0) = true := by
  unfold fgI
  rw [hL, Int.toNat_natCast]
  have : fgF L 0 (k * 24 + k) = 1073741824 := by
    show oneF (k * 24 + k) = _
    rw [oneF_at hk, if_pos rfl]
  rw [this]
  simp; omega
theorem bo_fgF {k : Nat} (hk : k < 24) {L : Nat → Int} (hL : L 0 = k) : fgF L 1 = boF k := by
  have h := bo_fgI hk hL
  have e : fgF L 1 = upd (fgF L 0) ((L 0).toNat * 24 + (L 0).toNat) 0 := if_pos h
  rw [e, hL, Int.toNat_natCast]; rfl
theorem bo_fgQ {k : Nat} (hk : k < 24) {L : Nat → Int} (hL : L 0 = k) (f : Nat → Int) : fgQ f L 1 = boQ k (varV (atV f k k)) := by
  have h := bo_fgI hk hL
  have e : fgQ f L 1 = upd (fgQ f L 0) (L 0).toNat (varV (atV f (L 0).toNat (L 0).toNat)) := if_pos h
  rw [e, hL, Int.toNat_natCast]; rfl
theorem bo_fgB {k : Nat} (hk : k < 24) {L : Nat → Int} (hL : L 0 = k) (f : Nat → Int) : orB (fgB f L) 1 = (atH f k k || varH (atV f k k)) := by
  have h := bo_fgI hk hL
  have e : fgB f L 0 = (atH f (L 0).toNat (L 0).toNat || varH (atV f (L 0).toNat (L 0).toNat)) := if_pos h
  unfold orB orB
  rw [e, hL, Int.toNat_natCast]; simp
theorem var_id {v : Int} (h : 1 ≤ v ∧ v ≤ 72057594037927936) : varV v = v ∧ varH v = false := by
  unfold varV varH clampV clampH
  refine ⟨?_, ?_⟩
  · rw [if_neg (by omega), if_neg (by omega), if_neg (by omega)]
  · simp; omega
theorem boT {P0 : Nat → Int} {k : Nat} {v : Int} (hk : k < 24) (hv : 1 ≤ v ∧ v ≤ 22000000000000) : TkH (clD P0 24) (boF k) (boQ k v) k where
  u := (clD_hyp P0).1
  d := (clD_hyp P0).2
  f := fun i m hi hm => by
    unfold boF Go.Proofs.Ytipkdkeacdmnaaa.upd
    by_cases h : i * 24 + m = k * 24 + k
    · rw [if_pos h, if_neg (by omega)]
    · rw [if_neg h, oneF_at hm]
      by_cases h2 : i = m
      · rw [if_pos h2, if_pos ⟨h2, by omega⟩]
      · rw [if_neg h2, if_neg (by omega)]
  n := fun i hi => by
    unfold boQ Go.Proofs.Ytipkdkeacdmnaaa.upd
    by_cases h : i = k
    · rw [if_pos h]; omega
    · rw [if_neg h]
      show (0 : Int) ≤ 0 ∧ (0 : Int) ≤ 22000000000000 ∧ (i ≠ k → (0 : Int) ≤ 17592186044416)
      omega
  qk := fun _ => by unfold boQ Go.Proofs.Ytipkdkeacdmnaaa.upd; rw [if_pos rfl]; omega
theorem bo_rs {k : Nat} (hk : k < 24) : boF k = rsF (rtR k 1) := by rw [← bo_rtF hk]; exact rtF_eq k 1
/-- A state that has nothing in common with those behind it: At tells its D. -/
theorem at_dg {f : Nat → Int} {k : Nat} (hk : k < 24) (hz : ∀ m, k < m → m < 24 → f (pl k m) = 0) (hd : ∀ m, m < 24 → SB (f (276 + m))) : atV f k k = f (276 + k) ∧ atH f k k = false := by
  have u0 : uV f k k = 1073741824 := uV_self f k
  have um : ∀ m, k < m → m < 24 → uV f k m = 0 := fun m h1 h2 => by rw [uV_up h1]; exact hz m h1 h2
  have m1 : mulV 1073741824 (f (276 + k)) 30 = f (276 + k) ∧ mulH 1073741824 (f (276 + k)) 30 = false := by
    unfold mulV mulH
    rw [if_neg (by decide), satV_sb (hd k hk), satH_sb (hd k hk), show satV 1073741824 = 1073741824 from by decide, show (30 : Int).toNat = 30 from rfl, cl_rshmul, satV_sb (hd k hk), satH_sb (hd k hk)]
    exact ⟨rfl, by decide⟩
  have m0 : ∀ x, SB x → mulV 0 x 30 = 0 ∧ mulH 0 x 30 = false := fun x hx => by
    unfold mulV mulH
    rw [if_neg (by decide), satH_sb hx, show satV 0 = 0 from by decide, Int.zero_mul, show (30 : Int).toNat = 30 from rfl]
    exact ⟨by decide, by decide⟩
  unfold atV atH
  rw [Nat.max_self]
  have eA : ∀ q, q < 24 - k → atU f k k q = if q = 0 then 1073741824 else 0 := fun q hq => by
    unfold atU
    by_cases h : q = 0
    · rw [if_pos h, h, Nat.add_zero, u0]
    · rw [if_neg h, um (k + q) (by omega) (by omega)]
  have eX : atX f k k 0 = f (276 + k) := by unfold atX; rw [Nat.add_zero, u0]; exact m1.1
  have eX2 : ∀ q, q < 24 - k → q ≠ 0 → atX f k k q = 0 := fun q hq h => by
    unfold atX
    rw [um (k + q) (by omega) (by omega)]
    exact (m0 _ (hd _ (by omega))).1
  have d := dotV_sg (A := atU f k k) (B := atX f k k) (n := 24 - k) (fun q hq => by
    refine ⟨?_, ?_⟩
    · rw [eA q hq]; unfold SB; split <;> omega
    · by_cases h : q = 0
      · rw [h, eX]; exact hd k hk
      · rw [eX2 q hq h]; unfold SB; omega) (by
    rw [sg_only (a := 0) (by omega) fun q hq h => by rw [eA q hq, if_neg h, Int.zero_mul], eA 0 (by omega), if_pos rfl, eX, cl_rshmul]; exact hd k hk)
  rw [sg_only (a := 0) (by omega) fun q hq h => by rw [eA q hq, if_neg h, Int.zero_mul], eA 0 (by omega), if_pos rfl, eX, cl_rshmul] at d
  refine ⟨d.1, ?_⟩
  rw [d.2, cl_orB fun q hq => ?_]
  · rfl
  · unfold atB
    by_cases h : q = 0
    · rw [h, Nat.add_zero, u0]; exact m1.2
    · rw [um (k + q) (by omega) (by omega)]; exact (m0 _ (hd _ (by omega))).2
/-- The state that is forgotten has just the variance that was given. -/
theorem bo_own (f : Nat → Int) {k : Nat} {v : Int} (hk : k < 24) (hv : 1 ≤ v ∧ v ≤ 72057594037927936) : atV (stepF f (boF k) (boQ k v)) k k = v ∧ atH (stepF f (boF k) (boQ k v)) k k = false := by
  have hR : rtR (k : Int) 1 k = true := by unfold rtR; simp; omega
  have hq : ∀ m, m < 24 → rtR (k : Int) 1 m = true → m = k := fun m hm h => by unfold rtR at h; simp at h; omega
  have a := block_apart f (rtR (k : Int) 1) (boQ k v) (fun m hm h => by
    rw [hq m hm h]; unfold boQ Go.Proofs.Ytipkdkeacdmnaaa.upd; rw [if_pos rfl]; exact hv)
  rw [← bo_rs hk] at a
  have g := (ON_good (stepW f (boF k)) (stepE f (boQ k v)) 24 (Nat.le_refl _)).2
  have b := at_dg (f := stepF f (boF k) (boQ k v)) hk (fun m h1 h2 => a.2 k m h1 h2 (.inl hR)) (fun m hm => by
    have := g m hm (by omega)
    unfold SB stepF; omega)
  rw [a.1 k hk hR] at b
  have e : boQ k v k = v := by unfold boQ Go.Proofs.Ytipkdkeacdmnaaa.upd; rw [if_pos rfl]
  rw [e] at b
  exact b
/-- What a state has itself, of the law's factors. -/
theorem bo_at {P0 : Nat → Int} {k : Nat} (hk : k < 24) : 1 ≤ atV (clD P0 24) k k ∧ atV (clD P0 24) k k ≤ 22000000000000 ∧ atH (clD P0 24) k k = false := by
  have T : TkH (clD P0 24) oneF (fun _ => 0) 24 := oneT fun i _ => by omega
  have a := T.cl.at_p hk hk
  have b := T.pp_own hk
  have hd := T.d k hk
  have lo : 1152921504606846976 * 17179869184 ≤ PP (clD P0 24) k k := by
    have h := sg_le (f := fun m => if m = k then 1152921504606846976 * 17179869184 else 0) (g := fun m => uV (clD P0 24) k m * uV (clD P0 24) k m * clD P0 24 (276 + m)) (n := 24) fun m hm => by
      have dm := T.d m hm
      have sq : 0 ≤ uV (clD P0 24) k m * uV (clD P0 24) k m := by
        rcases Int.le_total 0 (uV (clD P0 24) k m) with h | h
        · exact Int.mul_nonneg h h
        · exact Int.mul_nonneg_of_nonpos_of_nonpos h h
      by_cases e : m = k
      · rw [if_pos e, e, uV_self]
        omega
      · rw [if_neg e]
        exact Int.mul_nonneg sq (by omega)
    rw [sg_only hk fun m _ h => if_neg h, if_pos rfl] at h
    exact h
  have c := ab_bd (1152921504606846976 * atV (clD P0 24) k k - PP (clD P0 24) k k)
  exact ⟨by omega, by omega, a.2.1⟩
/-- The law BlockOthers, in numbers. -/
theorem bo_law {P0 : Nat → Int} {k i j : Nat} {v : Int} (hk : k < 24) (hi : i < 24) (hj : j < 24) (xi : i ≠ k) (xj : j ≠ k) (hv : 1 ≤ v ∧ v ≤ 22000000000000) :
    stepH (clD P0 24) (boF k) (boQ k v) = false ∧ atH (stepF (clD P0 24) (boF k) (boQ k v)) i j = false ∧ atH (clD P0 24) i j = false ∧ ab (atV (clD P0 24) i j) ≤ 212000000000000 ∧ ab (atV (stepF (clD P0 24) (boF k) (boQ k v)) i j - atV (clD P0 24) i j) ≤ 4294967296 := by
  have T := boT (P0 := P0) hk hv
  have a := T.close hi hj xi xj
  have e : (if i = j then boQ k v i else 0) = 0 := by
    split
    · unfold boQ Go.Proofs.Ytipkdkeacdmnaaa.upd; rw [if_neg xi]
    · rfl
  rw [e, Int.sub_zero] at a
  exact ⟨T.flag, a.1, a.2.1, a.2.2.1, a.2.2.2⟩
end Go.Proofs.Ytipkdkeacdmnaaa
/- Contract of block.Grow. -/
namespace Go.Proofs.Ytipkdkeacdmnaaa
open Go.RowKit
set_option maxRecDepth 100000
structure GwR (c : Addr) (h : Bool) (bq : Nat) (f Q : Nat → Int) (w wr : World) : Prop where
  upd : Upd c h w wr
  pB : Blk wr w.heap.size 25 300 f
  r0 : Blk wr (w.heap.size + 1) 25 300 (fun _ => 0)
  qB : Blk wr bq 23 24 Q
theorem GwR.below {c : Addr} {h : Bool} {bq : Nat} {f Q : Nat → Int} {w wr w' : World} (s : GwR c h bq f Q w wr) (u : Below wr.heap.size wr w') : GwR c h bq f Q w w' := ⟨s.upd.then u, s.pB.below u, s.r0.below u, s.qB.below u⟩
theorem GwR.drew {c : Addr} {h : Bool} {bq : Nat} {f Q : Nat → Int} {w wr : World} (s : GwR c h bq f Q w wr) : GwR c h bq f Q w wr.drew := ⟨s.upd.drew, s.pB, s.r0, s.qB⟩
theorem GwR.setQ {c : Addr} {h : Bool} {bq : Nat} {f Q : Nat → Int} {w wr : World} (s : GwR c h bq f Q w wr) (h1 : w.heap.size + 1 < bq) (j : Nat) (y : Int) : GwR c h bq f (Go.Proofs.Ytipkdkeacdmnaaa.upd Q j y) w (wr.setCell ⟨bq, j, none⟩ (.int .i64 y)) :=
  ⟨s.upd.setCell (by simp; omega) _, s.pB.other (by simp; omega) _, s.r0.other (by simp; omega) _, s.qB.set _ _⟩
set_option maxHeartbeats 4000000 in
theorem grow_any (c : Addr) (h : Bool) (f : Nat → Int) (fr : Int) (p : Option Addr) (n cp : Nat) (L : Nat → Int) (w : World) (hc : w.cell? c = some (.bool h)) (hf : w.frozen? c = false) (hL : Slc w p n L) (hfr : -1000000 ≤ fr ∧ fr ≤ 1000000) (hn : n ≤ 1000000) :
    Calls Try.prog 18 #[.pointer (some c), .agg (arrv 300 f), .int .i64 fr, .slice p n cp] w fun e w' =>
      e = .returned (.agg (arrv 300 (stepF f oneF (gwQ fr L n)))) ∧ Upd c (h || stepH f oneF (gwQ fr L n)) w w' := by
  have hcb := World.block_lt_of_cell? w c hc
  have HC := Lib.hid hc
  have HF := Lib.hid hf
  have HL := Lib.hid hL
  clear hc hf hL
  go_enter Try.func18, Try.ntmps18
  obtain ⟨W0, hW0⟩ : ∃ x, (w.alloc (.cells (arrv 300 f) 25)).alloc (.cells Try.zeroCells25 25) = x := ⟨_, rfl⟩
  have P0 : Blk W0 w.heap.size 25 300 f := by rw [← hW0]; exact (Blk.new w _ _ _).alloc _
  have Z0 : Blk W0 (w.heap.size + 1) 25 300 (fun _ => 0) := by rw [← hW0, zcov]; exact Blk.new1 w _ _ _ _
  have U0 : Upd c h w W0 := by rw [← hW0]; exact Upd.then (Upd.refl HC.out) (by (repeat (first | with_reducible exact Below.refl _ _ | with_reducible apply Below.drew | (with_reducible refine below_drewN ?_ _) | (with_reducible refine Below.alloc ?_ (by (try simp) <;> omega) _) | (with_reducible refine Below.setCell ?_ (by (try simp) <;> omega) _))))
  obtain ⟨bq, hbq⟩ : ∃ x, W0.heap.size = x := ⟨_, rfl⟩
  have h1 : w.heap.size + 1 < bq := by rw [← hbq]; exact Z0.lt
  have S2 : GwR c h bq f (fun _ => 0) w (W0.alloc (.cells #[.int .i64 0, .int .i64 0, .int .i64 0, .int .i64 0, .int .i64 0, .int .i64 0, .int .i64 0, .int .i64 0, .int .i64 0, .int .i64 0, .int .i64 0, .int .i64 0, .int .i64 0, .int .i64 0, .int .i64 0, .int .i64 0, .int .i64 0, .int .i64 0, .int .i64 0, .int .i64 0, .int .i64 0, .int .i64 0, .int .i64 0, .int .i64 0] 23)) :=
    ⟨U0.alloc _, P0.alloc _, Z0.alloc _, by rw [zcol, ← hbq]; exact Blk.new W0 _ _ _⟩
  have S2 := Lib.hid S2
  go_upto_region 1 with fail
  (try rw [hW0])
  clear P0 Z0 U0 hW0
  go_upto_region 2 with fail
  (try rw [hbq])
  generalize W0.alloc (.cells #[.int .i64 0, .int .i64 0, .int .i64 0, .int .i64 0, .int .i64 0, .int .i64 0, .int .i64 0, .int .i64 0, .int .i64 0, .int .i64 0, .int .i64 0, .int .i64 0, .int .i64 0, .int .i64 0, .int .i64 0, .int .i64 0, .int .i64 0, .int .i64 0, .int .i64 0, .int .i64 0, .int .i64 0, .int .i64 0, .int .i64 0, .int .i64 0] 23) = W3 at *
  clear hbq
  go_wp2_with fail
  go_loopw [15] (fun i wr => ∃ k : Nat, k ≤ n ∧ i = .int .i64 k ∧ Hid (GwR c h bq f (gwQ fr L k) w wr)) (fun i _ => n - (intOf i).toNat)
  case atStart => exact ⟨0, by omega, rfl, S2⟩
  case round =>
    obtain ⟨k, hk, rfl, R⟩ := hrel
    by_cases hkn : k < n
    · have d1 : decide ((k : Int) < (n : Int)) = true := by simp; omega
      obtain ⟨pb, po, rfl, hcell⟩ := HL.out k hkn
      have hne : (⟨pb, po + k, none⟩ : Addr) ≠ c := fun e => by rw [e, HC.out] at hcell; cases hcell
      have hpl := World.block_lt_of_cell? _ _ hcell
      have hcell' : wr.cell? ⟨pb, po + k, none⟩ = some (.int .i64 (L k)) := (R.out.upd.cell hpl (Ne.symm hne)).trans hcell
      have kw : IntKind.i64.wrap (fr + (k : Int)) = fr + (k : Int) := IntWalk.i64_in _ (by omega)
      obtain ⟨x, hx⟩ : ∃ x, fr + (k : Int) = x := ⟨_, rfl⟩
      rw [hx] at kw
      go_upto_region 6 with fail
      (try rw [hx]); (try rw [kw])
      by_cases hin : 0 ≤ x ∧ x < 24
      · obtain ⟨i, rfl⟩ : ∃ i : Nat, x = (i : Int) := ⟨x.toNat, by omega⟩
        have hi : i < 24 := by omega
        have q1 : decide ((0 : Int) ≤ (i : Int) ∧ (i : Int) < 24) = true := by simp; omega
        have qI : rtI fr k = true := by unfold rtI; rw [hx]; exact q1
        have qn : (fr + (k : Int)).toNat = i := by rw [hx]; simp
        have n2 := R.out.qB.cell (i := i) hi
        have n3 := R.out.qB.free i
        have EK := Lib.hid (And.intro qI qn)
        clear hcell hcell' kw hx hpl hne S2 qI qn
        go_wp2_with (go_at_call 33; (refine (is_any (i : Int) _).mono ?_); rintro e w5 ⟨rfl, rfl⟩; (rw [q1]))
        go_roundw
        case rel =>
          obtain ⟨e2, e3⟩ := EK.out
          refine ⟨k + 1, by omega, by go_num, ?_⟩
          rw [show gwQ fr L (k + 1) = Go.Proofs.Ytipkdkeacdmnaaa.upd (gwQ fr L k) i (L k) from by simp only [gwQ]; rw [if_pos e2, e3]]
          exact Lib.hid (R.out.setQ h1 _ _)
        case measure => simp [intOf]; omega
      · have q1 : decide ((0 : Int) ≤ x ∧ x < 24) = false := by simpa using hin
        have qI : rtI fr k = false := by unfold rtI; rw [hx]; exact q1
        have qI' : ¬ rtI fr k = true := by rw [qI]; simp
        have EK := Lib.hid qI'
        go_wp2_with (go_at_call 33; (refine (is_any x _).mono ?_); rintro e w5 ⟨rfl, rfl⟩; (rw [q1]))
        go_roundw
        case rel =>
          refine ⟨k + 1, by omega, by go_num, ?_⟩
          rw [show gwQ fr L (k + 1) = gwQ fr L k from by simp only [gwQ]; rw [if_neg EK.out]]
          exact R
        case measure => simp [intOf]; omega
    · have hkn2 : k = n := by omega
      subst hkn2
      have d1 : decide ((k : Int) < (k : Int)) = false := by simp
      obtain ⟨Q, hQ⟩ : ∃ x, gwQ fr L k = x := ⟨_, rfl⟩
      rw [hQ] at R
      have HQ := Lib.hid hQ
      clear hQ S2
      go_upto_region 9 with fail
      refine wp_region_M (fun w' => Blk w' w.heap.size 25 300 f ∧ Blk w' bq 23 24 Q) 5 (by kernel_rfl) ?_ (fun hHeld => ?_)
      · exact ⟨R.out.pB, R.out.qB⟩
      refine wpAnyM_take 0 (v := ?_) rfl (by kernel_rfl) (fun _ _ _ h => h) (Or.inl ⟨by rfl, ?_⟩) (by assumption) ?_
      rotate_left
      · (intro wx hSw; (try dsimp only at hSw); go_simp; (try with_reducible rfl))
      (try simp only [Act.put, nA, nB, nC])
      refine wpAnyM_take 1 (v := ?_) rfl (by kernel_rfl) (fun _ _ _ h => h) (Or.inl ⟨by rfl, ?_⟩) (by assumption) ?_
      rotate_left
      · (intro wx hSw; refine Eq.trans (run_load_row 25 (.tmp 5) (by rfl) (w.heap.size) (by rfl) _ _ _ _ (hSw.1) Try.underlying25 rfl (icov.trans (by rw [arrv_size]))) ?_; with_reducible rfl)
      (try simp only [Act.put, nA, nB, nC])
      refine wpAnyM_take 3 (v := ?_) rfl (by kernel_rfl) (fun _ _ _ h => h) (Or.inl ⟨by rfl, ?_⟩) (by assumption) ?_
      rotate_left
      · (intro wx hSw; refine Eq.trans (run_load_row 23 (.tmp 9) (by rfl) (bq) (by rfl) _ _ _ _ (hSw.2) Try.underlying23 rfl (icol.trans (by rw [arrv_size]))) ?_; with_reducible rfl)
      (try simp only [Act.put, nA, nB, nC])
      refine wpAnyM_oneS 2 rfl (by kernel_rfl) (fun K hK => ?_)
      go_simp
      (refine (one_any _).mono ?_); rintro e w5 ⟨rfl, hb5⟩; have R5 := Lib.hid (GwR.below (show GwR c h bq f Q w wr.drew from R.out.drew) hb5); clear hb5
      (try dsimp only)
      (try simp only [Act.put, nA, nB, nC])
      clear hHeld
      refine hK.out _ _ ?_ (fun hHeld => ?_)
      · exact ⟨R5.out.pB, R5.out.qB⟩
      clear hK K
      (try simp only [Act.put, nA, nB, nC])
      refine wpAnyM_oneS 4 rfl (by kernel_rfl) (fun K hK => ?_)
      go_simp
      (refine (step_any c h f oneF Q w5 (R5.out.upd.cellc HC.out) ((R5.out.upd.frozen hcb).trans HF.out)).mono ?_); rintro e w6 ⟨rfl, hu6⟩; have kp := And.intro (R5.out.pB.upd hu6 (by omega)) (R5.out.qB.upd hu6 (by omega)); have Z6 := R5.out.r0.upd hu6 (by omega); have U6 := Lib.hid (R5.out.upd.trans hu6); clear hu6
      (try dsimp only)
      (try simp only [Act.put, nA, nB, nC])
      clear hHeld
      refine hK.out _ _ ?_ (fun hHeld => ?_)
      · exact kp
      clear hK K
      (try simp only [Act.put, nA, nB, nC])
      refine wpAnyM_one 5 rfl (by kernel_rfl) (fun K hK => ?_)
      go_simp; rw [if_pos (arrv_size _ _), run_storeCells_row _ Z6]; go_simp
      refine hK.out _ _ (.inl (by kernel_rfl)) (fun _ => ?_)
      clear hK K
      (try simp only [Act.put, nA, nB, nC])
      refine wpAnyM_done (by kernel_rfl) ?_ _
      go_wp2_with fail
      refine bodyPost_ret (results_cell_row Try.results18 _ _ (w.heap.size + 1) 25 (arrv 300 (stepF f oneF Q)) (0, 0) _ rfl (setRow_heap _ _ _ _ _ _ Z6) Try.underlying25 rfl (icov.trans (by rw [arrv_size]))) rfl ⟨by rw [HQ.out], ?_⟩
      rw [HQ.out]
      exact U6.out.then' (below_row (Below.refl _ _) (by omega) _)
end Go.Proofs.Ytipkdkeacdmnaaa
/- Chapter 12's examples and law, plainly: what Reset, Forget, Grow make. -/
namespace Go.Proofs.Ytipkdkeacdmnaaa
/-- The covariance of the examples: two variances. -/
def bkL : Nat → Int := fun _ => 17592186044416
def bk0 : Nat → Int := newF 2 bkL
theorem bk0_D {i : Nat} : bk0 (276 + i) = if i < 2 then 17592186044416 else 1 := by
  unfold bk0 newF
  rw [if_neg (by omega), show 276 + i - 276 = i by omega]
  split
  · simp only [bkL]; decide
  · rfl
theorem bk0_U {x : Nat} (hx : x < 276) : bk0 x = 0 := by unfold bk0 newF; rw [if_pos hx]
theorem bk0_diag : DiagF bk0 := ⟨fun x hx => bk0_U hx, fun i _ => by rw [bk0_D]; split <;> omega⟩
theorem newH_bk : newH 2 bkL = false := by decide
def bkF5 : Nat → Int := stepF bk0 (rtF 0 1) (rtQ 0 (fun _ => 5) 1)
theorem bk_reset : bkF5 276 = 5 ∧ bkF5 277 = 17592186044416 ∧ stepH bk0 (rtF 0 1) (rtQ 0 (fun _ => 5) 1) = false ∧ orB (rtB 0 (fun _ => 5)) 1 = false := by
  have hR : ∀ i, rtR 0 1 i = decide (i = 0) := fun i => by unfold rtR; rw [Bool.eq_iff_iff]; simp; omega
  have hQ : ∀ i, i < 24 → rtQ 0 (fun _ => 5) 1 i = if i = 0 then 5 else 0 := fun i hi => by
    rw [rtQ_at 0 _ 1 i hi, hR]
    by_cases h : i = 0
    · rw [if_pos (by simp [h]), if_pos h]; decide
    · rw [if_neg (by simp [h]), if_neg h]
  have hE : ∀ i, i < 24 → dgE (rtR 0 1) (fun i => bk0 (276 + i)) i = if i = 0 then 0 else bk0 (276 + i) := fun i _ => by
    unfold dgE; rw [hR]
    by_cases h : i = 0
    · rw [if_pos (by simp [h]), if_pos h]
    · rw [if_neg (by simp [h]), if_neg h]
  have hP : RsP (rtR 0 1) bk0 := ⟨fun i j h1 h2 => by rw [bk0_U (pl_lt h1 h2)]; omega, fun i j h1 h2 _ => bk0_U (pl_lt h1 h2), bk0_diag.2⟩
  obtain ⟨h1, h2⟩ := step_reset hP (q := rtQ 0 (fun _ => 5) 1) (fun i hi => by rw [hQ i hi]; split <;> omega) (fun i hi => by
    rw [hE i hi, hQ i hi, bk0_D]; split <;> (first | omega | (split <;> omega)))
  unfold bkF5
  rw [rtF_eq]
  refine ⟨?_, ?_, h2, by decide⟩
  · rw [h1 276 (by omega), if_neg (by omega), hE _ (by omega), hQ _ (by omega)]; decide
  · rw [h1 277 (by omega), if_neg (by omega), hE _ (by omega), hQ _ (by omega)]; decide
theorem fgF_yes {L : Nat → Int} {k : Nat} (h : fgI (fgF L k) (L k) = true) : fgF L (k + 1) = upd (fgF L k) ((L k).toNat * 24 + (L k).toNat) 0 := if_pos h
theorem fgQ_yes {f L : Nat → Int} {k : Nat} (h : fgI (fgF L k) (L k) = true) : fgQ f L (k + 1) = upd (fgQ f L k) (L k).toNat (varV (atV f (L k).toNat (L k).toNat)) := if_pos h
theorem fgB_yes {f L : Nat → Int} {k : Nat} (h : fgI (fgF L k) (L k) = true) : fgB f L k = (atH f (L k).toNat (L k).toNat || varH (atV f (L k).toNat (L k).toNat)) := if_pos h
theorem fgI_0 : fgI (fgF (fun _ => 0) 0) ((fun _ : Nat => (0 : Int)) 0) = true := by decide
/-- The same with One above the diagonal, between the two states. -/
def bk1 : Nat → Int := upd bk0 (pl 0 1) 1073741824
def bkF0 : Nat → Int := stepF bk1 (fgF (fun _ => 0) 1) (fgQ bk1 (fun _ => 0) 1)
theorem bk1_at : atV bk1 0 0 = 35184372088832 ∧ atH bk1 0 0 = false := by decide +kernel
theorem fgF_0 : fgF (fun _ => 0) 1 = rsF (fun i => decide (i = 0)) := by
  rw [fgF_yes fgI_0]
  funext x
  show Go.Proofs.Ytipkdkeacdmnaaa.upd oneF 0 0 x = _
  unfold Go.Proofs.Ytipkdkeacdmnaaa.upd rsF oneF
  by_cases hx : x = 0
  · subst hx; rw [if_pos rfl, if_neg (by simp)]
  · rw [if_neg hx]
    by_cases hd : x / 24 = x % 24
    · rw [if_pos hd, if_pos ⟨hd, by simp; omega⟩]
    · rw [if_neg hd, if_neg (fun h => hd h.1)]
theorem fgQ_0 (i : Nat) : fgQ bk1 (fun _ => 0) 1 i = if i = 0 then 35184372088832 else 0 := by
  rw [fgQ_yes fgI_0]
  show Go.Proofs.Ytipkdkeacdmnaaa.upd (fun _ => 0) 0 (varV (atV bk1 0 0)) i = _
  unfold Go.Proofs.Ytipkdkeacdmnaaa.upd
  rw [bk1_at.1]
  split
  · decide
  · rfl
theorem bk_forget : bkF0 276 = 35184372088832 ∧ uV bkF0 0 1 = 0 ∧ stepH bk1 (fgF (fun _ => 0) 1) (fgQ bk1 (fun _ => 0) 1) = false ∧ orB (fgB bk1 (fun _ => 0)) 1 = false := by
  have hD : ∀ i, bk1 (276 + i) = bk0 (276 + i) := fun i => by unfold bk1 Go.Proofs.Ytipkdkeacdmnaaa.upd; rw [if_neg (by unfold pl; omega)]
  have hU : ∀ i j, i < j → j < 24 → bk1 (pl i j) = if i = 0 ∧ j = 1 then 1073741824 else 0 := fun i j h1 h2 => by
    unfold bk1 Go.Proofs.Ytipkdkeacdmnaaa.upd
    by_cases h : i = 0 ∧ j = 1
    · obtain ⟨rfl, rfl⟩ := h; rw [if_pos rfl, if_pos ⟨rfl, rfl⟩]
    · rw [if_neg (fun e => h (pl_inj2 h1 (by omega) h2 (by omega) e)), if_neg h, bk0_U (pl_lt h1 h2)]
  have hE : ∀ i, i < 24 → dgE (fun i => decide (i = 0)) (fun i => bk1 (276 + i)) i = if i = 0 then 0 else bk0 (276 + i) := fun i _ => by
    show (if decide (i = 0) = true then 0 else bk1 (276 + i)) = _
    rw [hD]
    by_cases h : i = 0
    · rw [if_pos (by simp [h]), if_pos h]
    · rw [if_neg (by simp [h]), if_neg h]
  have hP : RsP (fun i => decide (i = 0)) bk1 := by
    refine ⟨fun i j h1 h2 => ?_, fun i j h1 h2 hR => ?_, fun i hi => by rw [hD]; exact bk0_diag.2 i hi⟩
    · rw [hU i j h1 h2]; split <;> omega
    · rw [hU i j h1 h2, if_neg]; simp at hR; omega
  obtain ⟨h1, h2⟩ := step_reset hP (q := fgQ bk1 (fun _ => 0) 1) (fun i hi => by rw [fgQ_0]; split <;> omega) (fun i hi => by
    rw [hE i hi, fgQ_0, bk0_D]; split <;> (first | omega | (split <;> omega)))
  have hF : orB (fgB bk1 (fun _ => 0)) 1 = false := by
    show (false || fgB bk1 (fun _ => 0) 0) = false
    rw [fgB_yes fgI_0]
    show (false || (atH bk1 0 0 || varH (atV bk1 0 0))) = false
    rw [bk1_at.1, bk1_at.2]; decide
  unfold bkF0
  rw [fgF_0]
  refine ⟨?_, ?_, h2, hF⟩
  · rw [h1 276 (by omega), if_neg (by omega), hE _ (by omega), fgQ_0]; decide
  · unfold uV
    rw [if_neg (by decide), if_pos (by decide), h1 _ (by decide), if_pos (by decide)]
def bkF7 : Nat → Int := stepF bk0 oneF (gwQ 1 (fun _ => 7) 1)
theorem gwQ_7 (i : Nat) : gwQ 1 (fun _ => 7) 1 i = if i = 1 then 7 else 0 := by
  have hI : rtI 1 0 = true := by decide
  simp only [gwQ]
  rw [if_pos hI]
  unfold Go.Proofs.Ytipkdkeacdmnaaa.upd
  rfl
theorem bk_grow : bkF7 277 = 17592186044423 ∧ stepH bk0 oneF (gwQ 1 (fun _ => 7) 1) = false := by
  obtain ⟨h1, h2⟩ := step_diag bk0_diag (q := gwQ 1 (fun _ => 7) 1) (fun i hi => by
    rw [gwQ_7, bk0_D]; split <;> split <;> omega)
  refine ⟨?_, h2⟩
  unfold bkF7
  rw [h1 277 (by omega), if_neg (by omega), gwQ_7]
  decide
end Go.Proofs.Ytipkdkeacdmnaaa
/- The equality of two arrays of int64, as numbers. -/
namespace Go.Proofs.Ytipkdkeacdmnaaa
open Go
set_option maxRecDepth 100000
end Go.Proofs.Ytipkdkeacdmnaaa
/- The equality of two covariances, as numbers. -/
namespace Go.Proofs.Ytipkdkeacdmnaaa
open Go
set_option maxRecDepth 100000
end Go.Proofs.Ytipkdkeacdmnaaa
