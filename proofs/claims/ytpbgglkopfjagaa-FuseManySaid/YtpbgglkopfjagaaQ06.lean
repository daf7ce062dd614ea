/- Contracts of the program's functions and plain laws, part 6: they hold for all arguments. -/
import Derived.Test.YtpbgglkopfjagaaQ05
import Derived.Test.YtpbgglkopfjagaaQ04
import Derived.Test.YtpbgglkopfjagaaQ03
import Derived.Deep.Cut
import Derived.Deep.CutRange
import Derived.Laws.StructEq
import Derived.Laws.CopyOwn
import Derived.Test.YtpbgglkopfjagaaProg
import Derived.Deep.AppendLies
/- Contract of state.Add. -/
namespace Go.Proofs.Ytpbgglkopfjagaa
open Go.RowKit
set_option maxRecDepth 100000
def sumA (S D : Nat → Int) : Nat → Int := fun i => addV (S i) (D i)
def sumK (S D : Nat → Int) (k : Nat) : Nat → Int := fun i => if i < k then addV (S i) (D i) else S i
def add1F (S D : Nat → Int) : Nat → Int := clmF (turnd (sumA S D) (uniV (sumA S D)))
def add1H (S D : Nat → Int) : Bool := orB (fun i => addH (S i) (D i)) 24 || uniH (sumA S D) || clmH (turnd (sumA S D) (uniV (sumA S D)))
/-- The first n of D's rows of 24 added. -/
def addNF (S D : Nat → Int) : Nat → Nat → Int | 0 => S | n + 1 => add1F (addNF S D n) (fun i => D (n * 24 + i))
def addNH (S D : Nat → Int) : Nat → Bool | 0 => false | n + 1 => addNH S D n || add1H (addNF S D n) (fun i => D (n * 24 + i))
theorem sadd_none (c : Addr) (h : Bool) (S : Nat → Int) (p : Option Addr) (cp : Nat) (w : World) (hc : w.cell? c = some (.bool h)) (hf : w.frozen? c = false) :
    Calls Try.prog 23 #[.pointer (some c), .agg (arrv 24 S), .slice p 0 cp] w fun e w' => e = .returned (.agg (arrv 24 (keepF S))) ∧ Upd c (h || keepH S) w w' := by
  have hcb := World.block_lt_of_cell? w c hc
  have S0 : Hid (KpR c h S w ((w.alloc (.cells (arrv 24 S) 23)).alloc (.cells #[.int .i64 0, .int .i64 0, .int .i64 0, .int .i64 0, .int .i64 0, .int .i64 0, .int .i64 0, .int .i64 0, .int .i64 0, .int .i64 0, .int .i64 0, .int .i64 0, .int .i64 0, .int .i64 0, .int .i64 0, .int .i64 0, .int .i64 0, .int .i64 0, .int .i64 0, .int .i64 0, .int .i64 0, .int .i64 0, .int .i64 0, .int .i64 0] 23))) := Lib.hid
    ⟨Upd.then (Upd.refl hc) (by (repeat (first | with_reducible exact Below.refl _ _ | with_reducible apply Below.drew | (with_reducible refine below_drewN ?_ _) | (with_reducible refine Below.alloc ?_ (by (try simp) <;> omega) _) | (with_reducible refine Below.setCell ?_ (by (try simp) <;> omega) _)))), (Blk.new w _ 24 _).alloc _, by rw [zvec24]; exact Blk.new1 w _ _ 24 _⟩
  have HC := Lib.hid hc
  have HF := Lib.hid hf
  clear hc hf
  go_enter Try.func23, Try.ntmps23
  go_upto_region 1 with fail
  generalize (w.alloc (.cells (arrv 24 S) 23)).alloc (.cells #[.int .i64 0, .int .i64 0, .int .i64 0, .int .i64 0, .int .i64 0, .int .i64 0, .int .i64 0, .int .i64 0, .int .i64 0, .int .i64 0, .int .i64 0, .int .i64 0, .int .i64 0, .int .i64 0, .int .i64 0, .int .i64 0, .int .i64 0, .int .i64 0, .int .i64 0, .int .i64 0, .int .i64 0, .int .i64 0, .int .i64 0, .int .i64 0] 23) = W0 at *
  have P0 := S0.out.blk
  have KP := Lib.hid (keep_any c h S W0 (S0.out.upd.cellc HC.out) ((S0.out.upd.frozen hcb).trans HF.out))
  go_wp2_with (first | (refine wpList_load_row rfl 23 _ rfl (w.heap.size) rfl 23 _ (0, 0) _ (P0) Try.underlying23 rfl (ist.trans (by rw [arrv_size])) ?_) | (go_at_call 18; (refine KP.out.mono ?_); rintro e w1 ⟨rfl, hu1⟩; have S1 := Lib.hid (S0.out.upd' hcb hu1); have R1 := S1.out.res; clear hu1) | (refine wpList_store_row rfl 23 _ _ rfl (w.heap.size + 1) _ rfl rfl 23 _ (R1) (ist.trans (by rw [arrv_size])) (by rw [arrv_size, arrv_size]) (oneCell_arrv _ _) ?_))
  refine bodyPost_ret (results_cell_row Try.results23 _ _ (w.heap.size + 1) 23 (arrv 24 (keepF S)) (0, 0) _ rfl (setRow_heap _ _ _ _ _ _ R1) Try.underlying23 rfl (ist.trans (by rw [arrv_size]))) rfl ⟨rfl, ?_⟩
  exact S1.out.upd.then' (below_row (Below.refl _ _) (by omega) _)
theorem KpR.upd2 {c : Addr} {h h' : Bool} {g : Nat → Int} {w wr w' : World} (s : KpR c h g w wr) (hc : c.block < w.heap.size) (u : Upd c h' wr w') : KpR c h' g w w' := s.upd' hc u
set_option maxHeartbeats 4000000 in
theorem sadd_any (c : Addr) (h : Bool) (S D : Nat → Int) (pd n cp : Nat) (w : World) (hc : w.cell? c = some (.bool h)) (hf : w.frozen? c = false) (hn : 0 < n) (hn2 : n ≤ 100)
    (hD : Blk w pd 22 (24 * n) D) :
    Calls Try.prog 23 #[.pointer (some c), .agg (arrv 24 S), .slice (some ⟨pd, 0, none⟩) n cp] w fun e w' => e = .returned (.agg (arrv 24 (addNF S D n))) ∧ Upd c (h || addNH S D n) w w' := by
  have hcb := World.block_lt_of_cell? w c hc
  have hdc := hD.flag hc
  have S0 : Hid (KpR c h S w ((w.alloc (.cells (arrv 24 S) 23)).alloc (.cells #[.int .i64 0, .int .i64 0, .int .i64 0, .int .i64 0, .int .i64 0, .int .i64 0, .int .i64 0, .int .i64 0, .int .i64 0, .int .i64 0, .int .i64 0, .int .i64 0, .int .i64 0, .int .i64 0, .int .i64 0, .int .i64 0, .int .i64 0, .int .i64 0, .int .i64 0, .int .i64 0, .int .i64 0, .int .i64 0, .int .i64 0, .int .i64 0] 23))) := Lib.hid
    ⟨Upd.then (Upd.refl hc) (by (repeat (first | with_reducible exact Below.refl _ _ | with_reducible apply Below.drew | (with_reducible refine below_drewN ?_ _) | (with_reducible refine Below.alloc ?_ (by (try simp) <;> omega) _) | (with_reducible refine Below.setCell ?_ (by (try simp) <;> omega) _)))), (Blk.new w _ 24 _).alloc _, by rw [zvec24]; exact Blk.new1 w _ _ 24 _⟩
  have HC := Lib.hid hc
  have HF := Lib.hid hf
  have HD := Lib.hid hD
  have e0 : ((n : Int) == 0) = false := by simp; omega
  have e1 : (n == 0) = false := by simp; omega
  clear hc hf hD
  go_enter Try.func23, Try.ntmps23
  go_upto_region 1 with fail
  generalize (w.alloc (.cells (arrv 24 S) 23)).alloc (.cells #[.int .i64 0, .int .i64 0, .int .i64 0, .int .i64 0, .int .i64 0, .int .i64 0, .int .i64 0, .int .i64 0, .int .i64 0, .int .i64 0, .int .i64 0, .int .i64 0, .int .i64 0, .int .i64 0, .int .i64 0, .int .i64 0, .int .i64 0, .int .i64 0, .int .i64 0, .int .i64 0, .int .i64 0, .int .i64 0, .int .i64 0, .int .i64 0] 23) = W0 at *
  go_wp2_with fail
  clear e0 e1
  go_loopw [18] (fun i wr => ∃ j : Nat, j ≤ n ∧ i = .int .i64 j ∧ Hid (KpR c (h || addNH S D j) (addNF S D j) w wr)) (fun i _ => n - (intOf i).toNat)
  case atStart => exact ⟨0, by omega, rfl, by rw [show (h || addNH S D 0) = h from by simp [addNH]]; exact S0.out⟩
  case round =>
    obtain ⟨j, hj, rfl, R⟩ := hrel
    by_cases hlt : j < n
    · have d1 : decide ((j : Int) < (n : Int)) = true := by simp; omega
      have d2 : decide (j < n) = true := by simpa using hlt
      have j0 : (0 : Int) ≤ (j : Int) := Int.natCast_nonneg _
      have j1 : (j : Int) < 100 := by omega
      have DB := HD.out.upd R.out.upd hdc
      obtain ⟨G, hG⟩ : ∃ G, addNF S D j = G := ⟨_, rfl⟩
      obtain ⟨E, hE⟩ : ∃ E : Nat → Int, (fun i => D (j * 24 + i)) = E := ⟨_, rfl⟩
      obtain ⟨H1, hH1⟩ : ∃ H1, (h || addNH S D j) = H1 := ⟨_, rfl⟩
      have HST := Lib.hid (show addNF S D (j + 1) = add1F G E ∧ (h || addNH S D (j + 1)) = (H1 || add1H G E) by rw [← hG, ← hE, ← hH1]; exact ⟨rfl, by simp [addNH, Bool.or_assoc]⟩)
      rw [hG, hH1] at R
      have HE := Lib.hid hE
      have X1 : Blk (wr.alloc (.cells #[.int .i64 0, .int .i64 0, .int .i64 0, .int .i64 0, .int .i64 0, .int .i64 0, .int .i64 0, .int .i64 0, .int .i64 0, .int .i64 0, .int .i64 0, .int .i64 0, .int .i64 0, .int .i64 0, .int .i64 0, .int .i64 0, .int .i64 0, .int .i64 0, .int .i64 0, .int .i64 0, .int .i64 0, .int .i64 0, .int .i64 0, .int .i64 0] 22)) wr.heap.size 22 24 (fun _ => 0) := by rw [zvec24]; exact Blk.new _ _ 24 _
      clear hG hE hH1 S0
      go_upto_region 6 with (first | (refine wpList_load_sub rfl 22 _ rfl pd (j * 24) 24 rfl DB (by omega) _ Try.underlying22 rfl icol ?_; rw [HE.out]) | (refine wpList_store_row rfl 22 _ _ rfl (wr.heap.size) _ rfl rfl 22 _ (X1) (icol.trans (by rw [arrv_size])) (by rw [arrv_size, arrv_size]) (oneCell_arrv _ _) ?_))
      have BX : Below wr.heap.size wr ((wr.alloc (.cells #[.int .i64 0, .int .i64 0, .int .i64 0, .int .i64 0, .int .i64 0, .int .i64 0, .int .i64 0, .int .i64 0, .int .i64 0, .int .i64 0, .int .i64 0, .int .i64 0, .int .i64 0, .int .i64 0, .int .i64 0, .int .i64 0, .int .i64 0, .int .i64 0, .int .i64 0, .int .i64 0, .int .i64 0, .int .i64 0, .int .i64 0, .int .i64 0] 22)).setRow wr.heap.size (arrv 24 E)) := below_row (by (repeat (first | with_reducible exact Below.refl _ _ | with_reducible apply Below.drew | (with_reducible refine below_drewN ?_ _) | (with_reducible refine Below.alloc ?_ (by (try simp) <;> omega) _) | (with_reducible refine Below.setCell ?_ (by (try simp) <;> omega) _)))) (Nat.le_refl _) _
      have K1 := Lib.hid (R.out.down BX)
      have X2 := Lib.hid (X1.setRow E)
      have hxb : w.heap.size + 1 < wr.heap.size := R.out.res.lt
      obtain ⟨xb, hxe⟩ : ∃ xb, wr.heap.size = xb := ⟨_, rfl⟩
      generalize (wr.alloc (.cells #[.int .i64 0, .int .i64 0, .int .i64 0, .int .i64 0, .int .i64 0, .int .i64 0, .int .i64 0, .int .i64 0, .int .i64 0, .int .i64 0, .int .i64 0, .int .i64 0, .int .i64 0, .int .i64 0, .int .i64 0, .int .i64 0, .int .i64 0, .int .i64 0, .int .i64 0, .int .i64 0, .int .i64 0, .int .i64 0, .int .i64 0, .int .i64 0] 22)).setRow wr.heap.size (arrv 24 E) = W1 at *
      rw [hxe] at X2 hxb ⊢
      clear hxe BX X1 R DB d1 d2
      go_wp2_with fail
      go_loopw [22] (fun i wr => ∃ k : Nat, k ≤ 24 ∧ i = .int .i64 k ∧ Hid (KpR c (H1 || orB (fun i => addH (G i) (E i)) k) (sumK G E k) w wr ∧ Blk wr xb 22 24 E)) (fun i _ => 24 - (intOf i).toNat)
      case atStart =>
        refine ⟨0, by omega, rfl, ?_, X2.out⟩
        rw [show (H1 || orB (fun i => addH (G i) (E i)) 0) = H1 from by simp [orB]]
        exact ⟨K1.out.upd, K1.out.blk.congr fun i hi => by simp [sumK], K1.out.res⟩
      case round =>
        obtain ⟨k, hk, rfl, R⟩ := hrel
        by_cases hlt4 : k < 24
        · have d3 : decide ((k : Int) < 24) = true := by simp; omega
          have k0 : (0 : Int) ≤ (k : Int) := Int.natCast_nonneg _
          have k1 : (k : Int) < 24 := by omega
          have b0 := R.out.1.blk.cell (i := k) (by omega)
          have hv : sumK G E k k = G k := by simp [sumK]
          rw [hv] at b0
          have x0 := R.out.2.cell (i := k) (by omega)
          obtain ⟨GV, hGV⟩ : ∃ x, G k = x := ⟨_, rfl⟩
          obtain ⟨EV, hEV⟩ : ∃ x, E k = x := ⟨_, rfl⟩
          obtain ⟨H2, hH2⟩ : ∃ x, (H1 || orB (fun i => addH (G i) (E i)) k) = x := ⟨_, rfl⟩
          rw [hGV] at b0
          rw [hEV] at x0
          have HH2 := Lib.hid (And.intro hH2 (And.intro hGV hEV))
          have R2 : Hid (KpR c H2 (sumK G E k) w wr ∧ Blk wr xb 22 24 E) := Lib.hid (by rw [← hH2]; exact R.out)
          clear hv hGV hEV hH2 R
          go_upto_region 9 with fail
          refine wp_region_M (fun w' => w'.cell? ⟨w.heap.size, k, none⟩ = some (.int .i64 GV) ∧ w'.cell? ⟨xb, k, none⟩ = some (.int .i64 EV)) 11 (by kernel_rfl) ?_ (fun hHeld => ?_)
          · exact ⟨b0, x0⟩
          refine wpAnyM_take 0 (v := ?_) rfl (by kernel_rfl) (fun _ _ _ h => h) (Or.inl ⟨by rfl, ?_⟩) (by assumption) ?_
          rotate_left
          · (intro wx hSw; (try dsimp only at hSw); go_simp; (try with_reducible rfl))
          (try simp only [Act.put, List.setIfInBounds_toArray, List.set_cons_zero, List.set_cons_succ])
          refine wpAnyM_take 1 (v := ?_) rfl (by kernel_rfl) (fun _ _ _ h => h) (Or.inl ⟨by rfl, ?_⟩) (by assumption) ?_
          rotate_left
          · (intro wx hSw; (try dsimp only at hSw); go_simp; (try with_reducible rfl))
          (try simp only [Act.put, List.setIfInBounds_toArray, List.set_cons_zero, List.set_cons_succ])
          refine wpAnyM_take 2 (v := ?_) rfl (by kernel_rfl) (fun _ _ _ h => h) (Or.inl ⟨by rfl, ?_⟩) (by assumption) ?_
          rotate_left
          · (intro wx hSw; (try dsimp only at hSw); go_simp; (try with_reducible rfl))
          (try simp only [Act.put, List.setIfInBounds_toArray, List.set_cons_zero, List.set_cons_succ])
          refine wpAnyM_take 3 (v := ?_) rfl (by kernel_rfl) (fun _ _ _ h => h) (Or.inl ⟨by rfl, ?_⟩) (by assumption) ?_
          rotate_left
          · (intro wx hSw; (try dsimp only at hSw); go_simp; (try with_reducible rfl))
          (try simp only [Act.put, List.setIfInBounds_toArray, List.set_cons_zero, List.set_cons_succ])
          refine wpAnyM_take 4 (v := ?_) rfl (by kernel_rfl) (fun _ _ _ h => h) (Or.inl ⟨by rfl, ?_⟩) (by assumption) ?_
          rotate_left
          · (intro wx hSw; (try dsimp only at hSw); go_simp; (try with_reducible rfl))
          (try simp only [Act.put, List.setIfInBounds_toArray, List.set_cons_zero, List.set_cons_succ])
          refine wpAnyM_take 5 (v := ?_) rfl (by kernel_rfl) (fun _ _ _ h => h) (Or.inl ⟨by rfl, ?_⟩) (by assumption) ?_
          rotate_left
          · (intro wx hSw; (try dsimp only at hSw); go_simp; (try with_reducible rfl))
          (try simp only [Act.put, List.setIfInBounds_toArray, List.set_cons_zero, List.set_cons_succ])
          refine wpAnyM_take 6 (v := ?_) rfl (by kernel_rfl) (fun _ _ _ h => h) (Or.inl ⟨by rfl, ?_⟩) (by assumption) ?_
          rotate_left
          · (intro wx hSw; (try dsimp only at hSw); go_simp; (try with_reducible rfl))
          (try simp only [Act.put, List.setIfInBounds_toArray, List.set_cons_zero, List.set_cons_succ])
          refine wpAnyM_take 7 (v := ?_) rfl (by kernel_rfl) (fun _ _ _ h => h) (Or.inl ⟨by rfl, ?_⟩) (by assumption) ?_
          rotate_left
          · (intro wx hSw; (try dsimp only at hSw); go_simp; (try with_reducible rfl))
          (try simp only [Act.put, List.setIfInBounds_toArray, List.set_cons_zero, List.set_cons_succ])
          refine wpAnyM_oneS 8 rfl (by kernel_rfl) (fun K hK => ?_)
          go_simp
          clear hHeld
          refine hK.out _ _ ?_ (fun hHeld => ?_)
          · exact ⟨by simp [World.cell?_alloc_some, b0], by simp [World.cell?_alloc_some, x0]⟩
          clear hK K
          (try simp only [Act.put, List.setIfInBounds_toArray, List.set_cons_zero, List.set_cons_succ])
          refine wpAnyM_oneS 9 rfl (by kernel_rfl) (fun K hK => ?_)
          go_simp
          have hw3 := (Below.refl wr.heap.size wr).drew.alloc (by simp) (.cells #[.int .i64 GV, .int .i64 EV] 2); have R3 := Lib.hid (And.intro (R2.out.1.down hw3) (R2.out.2.below hw3)); (refine (fadd_any c _ (two GV EV) wr.heap.size 0 2 2 _ (R3.out.1.upd.cellc HC.out) ((R3.out.1.upd.frozen hcb).trans HF.out) (by decide) (by intro i hi; obtain rfl | rfl : i = 0 ∨ i = 1 := (by omega); simp [go_sem, two]; simp [go_sem, two])).mono ?_); (rw [(add2 GV EV true).1, (add2 GV EV _).2]); rintro e w4 ⟨rfl, hu4⟩; have S4 := Lib.hid (R3.out.1.upd' hcb hu4); have X4 := Lib.hid (R3.out.2.upd hu4 (by omega)); have f4 := S4.out.blk.free k; have kp := And.intro ((S4.out.blk.cell (i := k) (by omega)).trans (by rw [show sumK G E k k = GV from by rw [← HH2.out.2.1]; simp [sumK]])) ((X4.out.cell (i := k) (by omega)).trans (by rw [HH2.out.2.2])); clear hu4 R3 hw3
          (try dsimp only)
          (try simp only [Act.put, List.setIfInBounds_toArray, List.set_cons_zero, List.set_cons_succ])
          clear hHeld
          refine hK.out _ _ ?_ (fun hHeld => ?_)
          · exact kp
          clear hK K
          (try simp only [Act.put, List.setIfInBounds_toArray, List.set_cons_zero, List.set_cons_succ])
          refine wpAnyM_take 10 (v := ?_) rfl (by kernel_rfl) (fun _ _ _ h => h) (Or.inl ⟨by rfl, ?_⟩) (by assumption) ?_
          rotate_left
          · (intro wx hSw; (try dsimp only at hSw); go_simp; (try with_reducible rfl))
          (try simp only [Act.put, List.setIfInBounds_toArray, List.set_cons_zero, List.set_cons_succ])
          refine wpAnyM_one 11 rfl (by kernel_rfl) (fun K hK => ?_)
          go_simp
          refine hK.out _ _ (.inl (by kernel_rfl)) (fun _ => ?_)
          clear hK K
          (try simp only [Act.put, List.setIfInBounds_toArray, List.set_cons_zero, List.set_cons_succ])
          refine wpAnyM_done (by kernel_rfl) ?_ _
          clear b0 x0 R2
          go_wp2_with fail
          go_roundw
          case rel =>
            refine ⟨k + 1, by omega, by go_num, ⟨?_, ?_, S4.out.res.other (by simp) _⟩, X4.out.other (by simp; omega) _⟩
            · rw [show (H1 || orB (fun i => addH (G i) (E i)) (k + 1)) = (H2 || addH GV EV) from by rw [← HH2.out.1, ← HH2.out.2.1, ← HH2.out.2.2]; simp [orB, Bool.or_assoc]]
              exact S4.out.upd.setCell (Nat.le_refl _) _
            · refine (S4.out.blk.set _ _).congr fun i hi => ?_
              simp only [Go.Proofs.Ytpbgglkopfjagaa.upd, sumK]
              by_cases h1 : i = k
              · subst h1; rw [if_pos rfl, if_pos (by omega), HH2.out.2.1, HH2.out.2.2]
              · rw [if_neg h1]; split <;> split <;> first | rfl | omega
          case measure => simp [intOf]; omega
        · have hk24 : k = 24 := by omega
          subst hk24
          rw [show ((24 : Nat) : Int) = 24 from rfl]
          obtain ⟨T, hT⟩ : ∃ T, sumA G E = T := ⟨_, rfl⟩
          obtain ⟨Y, hY⟩ : ∃ Y, turnd T (uniV T) = Y := ⟨_, rfl⟩
          obtain ⟨H2, hH2⟩ : ∃ x, (H1 || orB (fun i => addH (G i) (E i)) 24) = x := ⟨_, rfl⟩
          have S2 : Hid (KpR c H2 T w wr) := by
            rw [← hH2, ← hT]
            exact Lib.hid ⟨R.out.1.upd, R.out.1.blk.congr fun i hi => by simp only [sumK, sumA]; rw [if_pos hi], R.out.1.res⟩
          have HE2 := Lib.hid (show add1F G E = clmF Y ∧ (H1 || add1H G E) = (H2 || uniH T || clmH Y) by unfold add1F add1H; rw [hT, hY, ← hH2]; exact ⟨rfl, by simp [Bool.or_assoc]⟩)
          have HY := Lib.hid hY
          have P2 := S2.out.blk
          clear R hk hlt4 hT hY hH2 K1 X2
          go_upto_region 11 with fail
          refine wp_region_M (fun w' => Blk w' w.heap.size 23 24 T) 8 (by kernel_rfl) ?_ (fun hHeld => ?_)
          · exact P2.drew
          refine wpAnyM_take 0 (v := ?_) rfl (by kernel_rfl) (fun _ _ _ h => h) (Or.inl ⟨by rfl, ?_⟩) (by assumption) ?_
          rotate_left
          · (intro wx hSw; (try dsimp only at hSw); go_simp; (try with_reducible rfl))
          (try simp only [Act.put, List.setIfInBounds_toArray, List.set_cons_zero, List.set_cons_succ])
          refine wpAnyM_take 1 (v := ?_) rfl (by kernel_rfl) (fun _ _ _ h => h) (Or.inl ⟨by rfl, ?_⟩) (by assumption) ?_
          rotate_left
          · (intro wx hSw; refine Eq.trans (run_load_row 23 (.tmp 4) (by rfl) w.heap.size (by rfl) _ _ _ _ hSw Try.underlying23 rfl (ist.trans (by rw [arrv_size]))) ?_; with_reducible rfl)
          (try simp only [Act.put, List.setIfInBounds_toArray, List.set_cons_zero, List.set_cons_succ])
          refine wpAnyM_take 2 (v := ?_) rfl (by kernel_rfl) (fun _ _ _ h => h) (Or.inl ⟨by rfl, ?_⟩) (by assumption) ?_
          rotate_left
          · (intro wx hSw; (try dsimp only at hSw); go_simp; (try with_reducible rfl))
          (try simp only [Act.put, List.setIfInBounds_toArray, List.set_cons_zero, List.set_cons_succ])
          refine wpAnyM_take 3 (v := ?_) rfl (by kernel_rfl) (fun _ _ _ h => h) (Or.inl ⟨by rfl, ?_⟩) (by assumption) ?_
          rotate_left
          · (intro wx hSw; refine Eq.trans (run_load_row 23 (.tmp 4) (by rfl) w.heap.size (by rfl) _ _ _ _ hSw Try.underlying23 rfl (ist.trans (by rw [arrv_size]))) ?_; with_reducible rfl)
          (try simp only [Act.put, List.setIfInBounds_toArray, List.set_cons_zero, List.set_cons_succ])
          refine wpAnyM_oneS 4 rfl (by kernel_rfl) (fun K hK => ?_)
          go_simp
          (refine (att_any T _).mono ?_); rintro e w3 ⟨rfl, hb3⟩; have S3 := Lib.hid (S2.out.drew.down hb3); clear hb3
          (try dsimp only)
          (try simp only [Act.put, List.setIfInBounds_toArray, List.set_cons_zero, List.set_cons_succ])
          clear hHeld
          refine hK.out _ _ ?_ (fun hHeld => ?_)
          · exact S3.out.blk
          clear hK K
          (try simp only [Act.put, List.setIfInBounds_toArray, List.set_cons_zero, List.set_cons_succ])
          refine wpAnyM_oneS 5 rfl (by kernel_rfl) (fun K hK => ?_)
          go_simp
          (refine (qunit_any c H2 T w3 (S3.out.upd.cellc HC.out) ((S3.out.upd.frozen hcb).trans HF.out)).mono ?_); rintro e w4 ⟨rfl, hu4⟩; have S4 := Lib.hid (S3.out.upd' hcb hu4); clear hu4
          (try dsimp only)
          (try simp only [Act.put, List.setIfInBounds_toArray, List.set_cons_zero, List.set_cons_succ])
          clear hHeld
          refine hK.out _ _ ?_ (fun hHeld => ?_)
          · exact S4.out.blk
          clear hK K
          (try simp only [Act.put, List.setIfInBounds_toArray, List.set_cons_zero, List.set_cons_succ])
          refine wpAnyM_oneS 6 rfl (by kernel_rfl) (fun K hK => ?_)
          go_simp
          (refine (turned_any T (uniV T) _).mono ?_); rintro e w5 ⟨rfl, hb5⟩; have S5 := Lib.hid (S4.out.down hb5); clear hb5; (rw [HY.out])
          (try dsimp only)
          (try simp only [Act.put, List.setIfInBounds_toArray, List.set_cons_zero, List.set_cons_succ])
          clear hHeld
          refine hK.out _ _ ?_ (fun hHeld => ?_)
          · exact S5.out.blk
          clear hK K
          (try simp only [Act.put, List.setIfInBounds_toArray, List.set_cons_zero, List.set_cons_succ])
          refine wpAnyM_oneS 7 rfl (by kernel_rfl) (fun K hK => ?_)
          go_simp
          (refine (clamp24_any c _ Y w5 (S5.out.upd.cellc HC.out) ((S5.out.upd.frozen hcb).trans HF.out)).mono ?_); rintro e w6 ⟨rfl, hu6⟩; have S6 := Lib.hid (S5.out.upd' hcb hu6); have P6 := S6.out.blk; clear hu6
          (try dsimp only)
          (try simp only [Act.put, List.setIfInBounds_toArray, List.set_cons_zero, List.set_cons_succ])
          clear hHeld
          refine hK.out _ _ ?_ (fun hHeld => ?_)
          · exact S6.out.blk
          clear hK K
          (try simp only [Act.put, List.setIfInBounds_toArray, List.set_cons_zero, List.set_cons_succ])
          refine wpAnyM_one 8 rfl (by kernel_rfl) (fun K hK => ?_)
          go_simp; rw [if_pos (arrv_size _ _), run_storeCells_row _ P6]; go_simp
          refine hK.out _ _ (.inl (by kernel_rfl)) (fun _ => ?_)
          clear hK K
          (try simp only [Act.put, List.setIfInBounds_toArray, List.set_cons_zero, List.set_cons_succ])
          refine wpAnyM_done (by kernel_rfl) ?_ _
          have S7 := Lib.hid (S6.out.row (clmF Y))
          generalize w6.setRow w.heap.size (arrv 24 (clmF Y)) = W7 at *
          clear P6 S6 S5 S4 S3 S2 P2
          go_wp2_with fail
          go_roundw
          case rel =>
            refine ⟨j + 1, by omega, by go_num, ?_⟩
            rw [HST.out.1, HST.out.2, HE2.out.1, HE2.out.2]
            exact S7.out
          case measure => simp [intOf]; omega
    · have hjn : j = n := by omega
      subst hjn
      have d1 : decide (j < j) = false := by simp
      have V := R.out.blk
      have X := R.out.res
      have U := Lib.hid R.out.upd
      clear R hlt hj S0
      go_wp2_with (first | (refine wpList_load_row rfl 23 _ rfl (w.heap.size) rfl 23 _ (0, 0) _ (V) Try.underlying23 rfl (ist.trans (by rw [arrv_size])) ?_) | (refine wpList_store_row rfl 23 _ _ rfl (w.heap.size + 1) _ rfl rfl 23 _ (X) (ist.trans (by rw [arrv_size])) (by rw [arrv_size, arrv_size]) (oneCell_arrv _ _) ?_))
      refine bodyPost_ret (results_cell_row Try.results23 _ _ (w.heap.size + 1) 23 (arrv 24 (addNF S D j)) (0, 0) _ rfl (setRow_heap _ _ _ _ _ _ X) Try.underlying23 rfl (ist.trans (by rw [arrv_size]))) rfl ⟨rfl, ?_⟩
      exact U.out.then' (below_row (Below.refl _ _) (by omega) _)
end Go.Proofs.Ytpbgglkopfjagaa
/- A slice of one array of 24 numbers, built. -/
namespace Go.Proofs.Ytpbgglkopfjagaa
open Go.RowKit
open Go
set_option maxRecDepth 100000
theorem fill24 (D : Nat → Int) (pl : Nat → Option (Nat × Nat)) (hp : pl 0 = some (0, 24)) (Z : Array Value) (hZ : Z = arrv 24 (fun _ => 0)) : Instr.fill pl Z [(0, .agg (arrv 24 D))] = some (arrv 24 D) := by
  subst hZ
  have h := fill_first pl 24 0 D hp
  rw [h]
  exact congrArg some (arrv_congr fun i hi => by rw [if_pos (by omega)])
theorem zrange24 (Z : Array Value) (hZ : Z = arrv 24 (fun _ => 0)) : (Array.range 24).map (fun i => Z[i % Z.size]!) = arrv 24 (fun _ => 0) := by
  subst hZ; kernel_rfl
theorem run_buildSlice24 (D : Nat → Int) (w : World) : (Instr.buildSlice 96 1 #[(0, .agg (arrv 24 D))]).run Try.prog w = .ok (.slice (some ⟨w.heap.size, 0, none⟩) 1 1) (w.alloc (.cells (arrv 24 D) 22)) := by
  have hz : (zeroValue 22).run Try.prog w = .ok (.agg (arrv 24 (fun _ => 0))) w := by kernel_rfl
  have hs : (sizeOf 22).run Try.prog w = .ok 24 w := by kernel_rfl
  unfold Instr.buildSlice
  simp only [Sem.run_bind, run_underlying Try.underlying96, Result.andThen_ok, hs, Nat.one_mul]
  rw [if_neg (by decide), if_neg (by decide)]
  have hf : Instr.fill (fun i => some (i * 24, 24)) (Array.map (fun x => (Value.agg (arrv 24 (fun _ => 0))).cells[x % (Value.agg (arrv 24 (fun _ => 0))).cells.size]!) (Array.range 24)) [(0, Value.agg (arrv 24 D))] = some (arrv 24 D) :=
    fill24 D _ rfl _ (zrange24 (arrv 24 (fun _ => 0)) rfl)
  simp only [Sem.run_bind, hz, Result.andThen_ok, Sem.run_pure, hf]
  simp [newRow, newObj, go_sem]
  rfl
/-- At the list of a plain region's operations. -/
theorem wpList_bsl24 {ops : Array Oper} {rest : List Oper} {o : Oper} {a : Act} {w : World} {Q : Exit → Act → World → Prop} {D : Nat → Int} (hgd : o.guard = none) (x : Operand) (ho : o.op = .buildSlice 96 1 #[(0, x)])
    (hx : a.eval x = .agg (arrv 24 D)) (h : wpList Try.prog ops Q rest (a.put o.dst (.slice (some ⟨w.heap.size, 0, none⟩) 1 1)) (w.alloc (.cells (arrv 24 D) 22))) : wpList Try.prog ops Q (o :: rest) a w :=
  wpList_plain hgd fun _ hK => by
    unfold Oper.wp execOp
    simp only [ho, Sem.run_bind, List.map_toArray, List.map_cons, List.map_nil, hx, run_buildSlice24 D w, Result.andThen_ok]
    exact hK _ _ h
/-- At the operation. -/
theorem wp_bsl24 {o : Oper} {a : Act} {w : World} {K : Act → World → Prop} {Q : Exit → Act → World → Prop} {D : Nat → Int} (x : Operand) (ho : o.op = .buildSlice 96 1 #[(0, x)])
    (hx : a.eval x = .agg (arrv 24 D)) (h : K (a.put o.dst (.slice (some ⟨w.heap.size, 0, none⟩) 1 1)) (w.alloc (.cells (arrv 24 D) 22))) : o.wp Try.prog a w K Q := by
  unfold Oper.wp execOp
  simp only [ho, Sem.run_bind, List.map_toArray, List.map_cons, List.map_nil, hx, run_buildSlice24 D w, Result.andThen_ok]
  exact h
end Go.Proofs.Ytpbgglkopfjagaa
/- Plain numbers: is a number as near as its gate asks? No program. -/
namespace Go.Proofs.Ytpbgglkopfjagaa
def likB (y s gate : Int) : Bool := decide (1 ≤ gate) && decide (gate ≤ 1000) && decide (1 ≤ satV s) && decide (satV y * satV y ≤ gate * gate * 65536 * satV s)
theorem absV_sat (a : Int) : satV a * satV a = absV a * absV a ∧ 0 ≤ absV a := by
  unfold satV clampV absV
  by_cases h1 : 1152921504606846976 ≤ a ∨ a ≤ -1152921504606846976
  · rw [if_pos h1]
    rcases h1 with h1 | h1
    · rw [if_neg (by omega), if_neg (by omega)]
      refine ⟨?_, by omega⟩
      split
      · rfl
      · rw [show a = 1152921504606846976 by omega]
    · rw [if_neg (by omega)]
      refine ⟨?_, by omega⟩
      split
      · rfl
      · rw [if_neg (by omega), show a = -1152921504606846976 by omega]; rfl
  · rw [if_neg h1, if_neg (by omega), if_neg (by omega), if_neg (by omega)]
    split
    · exact ⟨by rw [Int.neg_mul_neg], by omega⟩
    · exact ⟨rfl, by omega⟩
/-- What is within a gate is within a wider one, and with a greater variance; nearer numbers are, too. -/
theorem lik_rises {y z s t a b : Int} (hs : 1 ≤ s) (hst : s ≤ t) (ht : t ≤ 1125899906842624) (ha : 1 ≤ a) (hab : a ≤ b) (hb : b ≤ 1000) (hz : absV z ≤ absV y) (h : likB y s a = true) : likB z t b = true := by
  have es : satV s = s := satV_id (by omega) (by omega)
  have et : satV t = t := satV_id (by omega) (by omega)
  obtain ⟨y1, y2⟩ := absV_sat y
  obtain ⟨z1, z2⟩ := absV_sat z
  unfold likB at *
  simp only [Bool.and_eq_true, decide_eq_true_eq] at *
  obtain ⟨⟨⟨_, _⟩, _⟩, h⟩ := h
  refine ⟨⟨⟨by omega, by omega⟩, by omega⟩, ?_⟩
  rw [es, y1] at h
  rw [et, z1]
  have k1 : absV z * absV z ≤ absV y * absV y := Int.mul_le_mul hz hz z2 y2
  have k2 : a * a ≤ b * b := Int.mul_le_mul hab hab (by omega) (by omega)
  have k3 : a * a * 65536 * s ≤ b * b * 65536 * t := Int.mul_le_mul (by omega) hst (by omega) (by have := sq_nonneg b; omega)
  omega
theorem lik_zero {s gate : Int} (h1 : 1 ≤ gate) (h2 : gate ≤ 1000) (hs : 1 ≤ s) : likB 0 s gate = true := by
  have es : 1 ≤ satV s := by unfold satV clampV; rw [if_neg (by decide), if_neg (by omega)]; split <;> omega
  have e0 : satV 0 = 0 := by decide
  unfold likB
  simp only [Bool.and_eq_true, decide_eq_true_eq]
  refine ⟨⟨⟨h1, h2⟩, es⟩, ?_⟩
  rw [e0]
  have : 0 ≤ gate * gate * 65536 * satV s := Int.mul_nonneg (Int.mul_nonneg (Int.mul_nonneg (by omega) (by omega)) (by decide)) (by omega)
  omega
theorem gate_bd {g : Int} (h1 : 1 ≤ g) (h2 : g ≤ 1000) : 1 ≤ g * g ∧ g * g ≤ 1000000 := by
  have a : 1 * 1 ≤ g * g := Int.mul_le_mul h1 h1 (by decide) (by omega)
  have b : g * g ≤ 1000 * 1000 := Int.mul_le_mul h2 h2 (by omega) (by decide)
  omega
theorem lik_bd {g s : Int} (h1 : 1 ≤ g) (h2 : g ≤ 1000) (hs : 1 ≤ satV s) : 0 ≤ g * g * 65536 * satV s ∧ g * g * 65536 * satV s ≤ 75557863725914323419136000000 := by
  obtain ⟨a, b⟩ := gate_bd h1 h2
  have c := (satV_bd s).2
  have e : g * g * 65536 * satV s ≤ 65536000000 * 1152921504606846976 := Int.mul_le_mul (by omega) c (by omega) (by decide)
  refine ⟨Int.mul_nonneg (by omega) (by omega), by omega⟩
end Go.Proofs.Ytpbgglkopfjagaa
/- Contracts of wide.Cmp and fuse.Likely. -/
namespace Go.Proofs.Ytpbgglkopfjagaa
open Go.RowKit
set_option maxRecDepth 100000
def cmpV (A B : Int) : Int := if A = B then 0 else if A < B then -1 else 1
theorem cmp_any (A B : Int) (w : World) : Calls Try.prog 31 #[.agg #[.int .i64 (hi64 A), .int .u64 (lo64 A)], .agg #[.int .i64 (hi64 B), .int .u64 (lo64 B)]] w fun e w' => e = .returned (.int .i64 (cmpV A B)) ∧ Below w.heap.size w w' := by
  by_cases h : A = B
  · subst h
    have E := Lib.hid (show cmpV A A = 0 by unfold cmpV; rw [if_pos rfl])
    go_enter Try.func31, Try.ntmps31
    go_wp2_with fail
    go_ret
    exact ⟨by rw [E.out]; rfl, by (repeat (first | with_reducible exact Below.refl _ _ | with_reducible apply Below.drew | (with_reducible refine below_drewN ?_ _) | (with_reducible refine Below.alloc ?_ (by (try simp) <;> omega) _) | (with_reducible refine Below.setCell ?_ (by (try simp) <;> omega) _)))⟩
  · by_cases h1 : hi64 A < hi64 B
    · have E := Lib.hid (show cmpV A B = -1 by unfold cmpV; rw [if_neg h, if_pos (by unfold hi64 at h1; omega)])
      have d1 : (hi64 A == hi64 B) = false := by simp; omega
      have d2 : decide (hi64 A < hi64 B) = true := by simpa using h1
      clear h h1
      go_enter Try.func31, Try.ntmps31
      go_wp2_with fail
      go_ret
      exact ⟨by rw [E.out]; rfl, by (repeat (first | with_reducible exact Below.refl _ _ | with_reducible apply Below.drew | (with_reducible refine below_drewN ?_ _) | (with_reducible refine Below.alloc ?_ (by (try simp) <;> omega) _) | (with_reducible refine Below.setCell ?_ (by (try simp) <;> omega) _)))⟩
    · by_cases h2 : hi64 A = hi64 B
      · have d1 : (hi64 A == hi64 B) = true := by simpa using h2
        have d2 : decide (hi64 A < hi64 B) = false := by simpa using h1
        have d3 : (lo64 A == lo64 B) = false := by simp; intro e; exact h (by have := hilo A; have := hilo B; omega)
        by_cases h3 : lo64 A < lo64 B
        · have E := Lib.hid (show cmpV A B = -1 by unfold cmpV; rw [if_neg h, if_pos (by have := hilo A; have := hilo B; omega)])
          have d4 : decide (lo64 A < lo64 B) = true := by simpa using h3
          clear h h1 h2 h3
          go_enter Try.func31, Try.ntmps31
          go_wp2_with fail
          go_ret
          exact ⟨by rw [E.out]; rfl, by (repeat (first | with_reducible exact Below.refl _ _ | with_reducible apply Below.drew | (with_reducible refine below_drewN ?_ _) | (with_reducible refine Below.alloc ?_ (by (try simp) <;> omega) _) | (with_reducible refine Below.setCell ?_ (by (try simp) <;> omega) _)))⟩
        · have E := Lib.hid (show cmpV A B = 1 by unfold cmpV; rw [if_neg h, if_neg (by have := hilo A; have := hilo B; omega)])
          have d4 : decide (lo64 A < lo64 B) = false := by simpa using h3
          clear h h1 h2 h3
          go_enter Try.func31, Try.ntmps31
          go_wp2_with fail
          go_ret
          exact ⟨by rw [E.out]; rfl, by (repeat (first | with_reducible exact Below.refl _ _ | with_reducible apply Below.drew | (with_reducible refine below_drewN ?_ _) | (with_reducible refine Below.alloc ?_ (by (try simp) <;> omega) _) | (with_reducible refine Below.setCell ?_ (by (try simp) <;> omega) _)))⟩
      · have E := Lib.hid (show cmpV A B = 1 by unfold cmpV; rw [if_neg h, if_neg (by unfold hi64 at h1 h2; omega)])
        have d1 : (hi64 A == hi64 B) = false := by simpa using h2
        have d2 : decide (hi64 A < hi64 B) = false := by simpa using h1
        clear h h1 h2
        go_enter Try.func31, Try.ntmps31
        go_wp2_with fail
        go_ret
        exact ⟨by rw [E.out]; rfl, by (repeat (first | with_reducible exact Below.refl _ _ | with_reducible apply Below.drew | (with_reducible refine below_drewN ?_ _) | (with_reducible refine Below.alloc ?_ (by (try simp) <;> omega) _) | (with_reducible refine Below.setCell ?_ (by (try simp) <;> omega) _)))⟩
set_option maxHeartbeats 1000000 in
theorem likely_any (y s g : Int) (w : World) (_g0 : -9223372036854775808 ≤ g) (_g1 : g ≤ 9223372036854775807) :
    Calls Try.prog 14 #[.int .i64 y, .int .i64 s, .int .i64 g] w fun e w' => e = .returned (.bool (likB y s g)) ∧ Below w.heap.size w w' := by
  have S1 := Lib.hid (sat_any ⟨w.heap.size, 0, none⟩ false y (w.alloc (.cells #[.bool false] 31)) (by simp) (by simp))
  have S2 := Lib.hid (sat_any ⟨w.heap.size, 0, none⟩ (satH y) s (w.alloc (.cells #[.bool (satH y)] 31)) (by simp) (by simp))
  have B2 : Hid (Below w.heap.size w ((w.alloc (.cells #[.bool (satH y)] 31)).setCell ⟨w.heap.size, 0, none⟩ (.bool (satH y || satH s)))) := Lib.hid (by (repeat (first | with_reducible exact Below.refl _ _ | with_reducible apply Below.drew | (with_reducible refine below_drewN ?_ _) | (with_reducible refine Below.alloc ?_ (by (try simp) <;> omega) _) | (with_reducible refine Below.setCell ?_ (by (try simp) <;> omega) _))))
  have sy := satV_bd y
  have ss := satV_bd s
  have HL : Hid (likB y s g = (decide (1 ≤ g) && decide (g ≤ 1000) && decide (1 ≤ satV s) && decide (satV y * satV y ≤ g * g * 65536 * satV s))) := Lib.hid rfl
  have PY := prod_bd y y
  have LB := fun h1 h2 h3 => lik_bd (g := g) (s := s) h1 h2 h3
  have LB := Lib.hid LB
  obtain ⟨Y, hY⟩ : ∃ Y, satV y = Y := ⟨_, rfl⟩
  obtain ⟨S, hS⟩ : ∃ S, satV s = S := ⟨_, rfl⟩
  rw [hY] at S1 sy HL PY
  rw [hS] at S2 ss HL LB
  clear hY hS
  by_cases h1 : g < 1
  · have d1 : decide (g < 1) = true := by simpa using h1
    have E := Lib.hid (show likB y s g = false by rw [HL.out, show decide (1 ≤ g) = false by simp; omega]; rfl)
    go_enter Try.func14, Try.ntmps14
    go_wp2_with fail
    refine S1.out.mono ?_; rintro e w' ⟨rfl, rfl⟩
    go_wp2_with fail
    refine S2.out.mono ?_; rintro e w' ⟨rfl, rfl⟩
    go_wp2_with fail
    go_ret
    exact ⟨by rw [E.out]; rfl, by (repeat (first | with_reducible exact Below.refl _ _ | with_reducible apply Below.drew | (with_reducible refine below_drewN ?_ _) | (with_reducible refine Below.alloc ?_ (by (try simp) <;> omega) _) | (with_reducible refine Below.setCell ?_ (by (try simp) <;> omega) _)))⟩
  · by_cases h2 : 1000 < g
    · have d1 : decide (g < 1) = false := by simpa using h1
      have d2 : decide (1000 < g) = true := by simpa using h2
      have E := Lib.hid (show likB y s g = false by rw [HL.out, show decide (g ≤ 1000) = false by simp; omega]; simp)
      go_enter Try.func14, Try.ntmps14
      go_wp2_with fail
      refine S1.out.mono ?_; rintro e w' ⟨rfl, rfl⟩
      go_wp2_with fail
      refine S2.out.mono ?_; rintro e w' ⟨rfl, rfl⟩
      go_wp2_with fail
      go_ret
      exact ⟨by rw [E.out]; rfl, by (repeat (first | with_reducible exact Below.refl _ _ | with_reducible apply Below.drew | (with_reducible refine below_drewN ?_ _) | (with_reducible refine Below.alloc ?_ (by (try simp) <;> omega) _) | (with_reducible refine Below.setCell ?_ (by (try simp) <;> omega) _)))⟩
    · by_cases h3 : S < 1
      · have d1 : decide (g < 1) = false := by simpa using h1
        have d2 : decide (1000 < g) = false := by simpa using h2
        have d3 : decide (S < 1) = true := by simpa using h3
        have E := Lib.hid (show likB y s g = false by rw [HL.out, show decide (1 ≤ S) = false by simp; omega]; simp)
        go_enter Try.func14, Try.ntmps14
        go_wp2_with fail
        refine S1.out.mono ?_; rintro e w' ⟨rfl, rfl⟩
        go_wp2_with fail
        refine S2.out.mono ?_; rintro e w' ⟨rfl, rfl⟩
        go_wp2_with fail
        go_ret
        exact ⟨by rw [E.out]; rfl, by (repeat (first | with_reducible exact Below.refl _ _ | with_reducible apply Below.drew | (with_reducible refine below_drewN ?_ _) | (with_reducible refine Below.alloc ?_ (by (try simp) <;> omega) _) | (with_reducible refine Below.setCell ?_ (by (try simp) <;> omega) _)))⟩
      · have d1 : decide (g < 1) = false := by simpa using h1
        have d2 : decide (1000 < g) = false := by simpa using h2
        have d3 : decide (S < 1) = false := by simpa using h3
        have gb := gate_bd (g := g) (by omega) (by omega)
        have lb := LB.out (by omega) (by omega) (by omega)
        obtain ⟨Q, hQ⟩ : ∃ Q, g * g = Q := ⟨_, rfl⟩
        rw [hQ] at gb lb
        obtain ⟨G, hG⟩ : ∃ G, Q * 65536 = G := ⟨_, rfl⟩
        rw [hG] at lb
        obtain ⟨M1, hM1⟩ : ∃ M, Y * Y = M := ⟨_, rfl⟩
        obtain ⟨M2, hM2⟩ : ∃ M, G * S = M := ⟨_, rfl⟩
        have e1 : IntKind.i64.wrap (g * g) = Q := by rw [hQ]; exact IntWalk.i64_in _ (by omega)
        have e2 : IntKind.i64.wrap (Q * 65536) = G := by rw [hG]; exact IntWalk.i64_in _ (by omega)
        rw [hM1] at PY
        rw [hM2] at lb
        have A1 := Lib.hid (fun w => mul_any Y Y M1 w (by omega) (by omega) (by omega) (by omega) hM1 (by omega) (by omega))
        have A2 := Lib.hid (fun w => mul_any G S M2 w (by omega) (by omega) (by omega) (by omega) hM2 (by omega) (by omega))
        have A3 := Lib.hid (fun w => cmp_any M1 M2 w)
        have E : Hid (likB y s g = decide (cmpV M1 M2 ≤ 0)) := by
          rw [hQ, hG, hM1, hM2] at HL
          refine Lib.hid (HL.out.trans ?_)
          rw [show decide (1 ≤ g) = true by simp; omega, show decide (g ≤ 1000) = true by simp; omega, show decide (1 ≤ S) = true by simp; omega]
          unfold cmpV
          rw [Bool.eq_iff_iff]
          simp only [Bool.true_and, decide_eq_true_eq]
          split
          · omega
          · split <;> omega
        obtain ⟨C, hC⟩ : ∃ C, cmpV M1 M2 = C := ⟨_, rfl⟩
        rw [hC] at E
        have A3 : Hid (∀ w, Calls Try.prog 31 #[.agg #[.int .i64 (hi64 M1), .int .u64 (lo64 M1)], .agg #[.int .i64 (hi64 M2), .int .u64 (lo64 M2)]] w fun e w' => e = .returned (.int .i64 C) ∧ Below w.heap.size w w') := by rw [← hC]; exact A3
        clear hQ hG hM1 hM2 hC gb lb PY HL LB sy ss
        go_enter Try.func14, Try.ntmps14
        go_wp2_with fail
        refine S1.out.mono ?_; rintro e w' ⟨rfl, rfl⟩
        go_wp2_with fail
        refine S2.out.mono ?_; rintro e w' ⟨rfl, rfl⟩
        generalize (w.alloc (.cells #[.bool (satH y)] 31)).setCell ⟨w.heap.size, 0, none⟩ (.bool (satH y || satH s)) = w2 at *
        go_wp2_with fail
        refine (A1.out _).mono ?_; rintro e w3 ⟨rfl, hb3⟩
        have B3 := Lib.hid (Below.after B2.out hb3)
        clear hb3
        go_wp2_with fail
        refine (A2.out _).mono ?_; rintro e w4 ⟨rfl, hb4⟩
        have B4 := Lib.hid (Below.after B3.out hb4)
        clear hb4
        go_wp2_with fail
        refine (A3.out _).mono ?_; rintro e w5 ⟨rfl, hb5⟩
        have B5 := Lib.hid (Below.after B4.out hb5)
        clear hb5
        go_wp2_with fail
        go_ret
        exact ⟨by rw [E.out]; rfl, B5.out⟩
end Go.Proofs.Ytpbgglkopfjagaa
/- Contract of tri.Condition. -/
namespace Go.Proofs.Ytpbgglkopfjagaa
open Go.RowKit
set_option maxRecDepth 100000
def DMAX : Int := 72057594037927936
theorem variance_any (c : Addr) (h : Bool) (a : Int) (w : World) (hc : w.cell? c = some (.bool h)) (hf : w.frozen? c = false) :
    Calls Try.prog 35 #[.pointer (some c), .int .i64 a] w fun e w' => e = .returned (.int .i64 (clampV a 1 72057594037927936)) ∧ w.setCell c (.bool (h || clampH a 1 72057594037927936)) = w' := by
  go_enter Try.func35, Try.ntmps35
  go_wp2_with (go_at_call 41; refine (clamp_any c h a _ _ _ hc hf).mono ?_; rintro e w' ⟨rfl, rfl⟩)
  go_ret
  exact ⟨rfl, rfl⟩
/-- A covariance as 300 numbers: U's first, then D's. -/
def condF (f : Nat → Int) : Nat → Int := fun i => if i < 276 then satV (f i) else varV (f i)
def condH (f : Nat → Int) : Bool := orB (fun i => varH (f (276 + i))) 24 || orB (fun i => satH (f i)) 276
def condD (f : Nat → Int) (k : Nat) : Nat → Int := fun i => if 276 ≤ i ∧ i < 276 + k then varV (f i) else f i
def condU (f : Nat → Int) (k : Nat) : Nat → Int := fun i => if i < k then satV (f i) else if 276 ≤ i then varV (f i) else f i
structure CondR (c : Addr) (h : Bool) (g : Nat → Int) (w wr : World) : Prop where
  upd : Upd c h w wr
  blk : Blk wr w.heap.size 26 300 g
  res : Blk wr (w.heap.size + 1) 26 300 (fun _ => 0)
theorem zcov : Try.zeroCells26 = arrv 300 (fun _ => 0) := by kernel_rfl
theorem icov : (Try.prog.info? 26).map (·.size) = some 300 := by kernel_rfl
theorem cond_any (c : Addr) (h : Bool) (f : Nat → Int) (w : World) (hc : w.cell? c = some (.bool h)) (hf : w.frozen? c = false) :
    Calls Try.prog 19 #[.pointer (some c), .agg (arrv 300 f)] w fun e w' => e = .returned (.agg (arrv 300 (condF f))) ∧ Upd c (h || condH f) w w' := by
  have hcb := World.block_lt_of_cell? w c hc
  have HC := Lib.hid hc
  have HF := Lib.hid hf
  clear hc hf
  go_enter Try.func19, Try.ntmps19
  go_wp2_with fail
  go_loopw [7] (fun i wr => ∃ k : Nat, k ≤ 24 ∧ i = .int .i64 k ∧ Hid (CondR c (h || orB (fun i => varH (f (276 + i))) k) (condD f k) w wr)) (fun i _ => 24 - (intOf i).toNat)
  case atStart =>
    refine ⟨0, by omega, rfl, ⟨?_, ?_, ?_⟩⟩
    · rw [show (h || orB (fun i => varH (f (276 + i))) 0) = h from by simp [orB]]
      exact Upd.then (Upd.refl HC.out) (by (repeat (first | with_reducible exact Below.refl _ _ | with_reducible apply Below.drew | (with_reducible refine below_drewN ?_ _) | (with_reducible refine Below.alloc ?_ (by (try simp) <;> omega) _) | (with_reducible refine Below.setCell ?_ (by (try simp) <;> omega) _))))
    · exact (Blk.alloc (Blk.new w _ 300 f) _).congr fun i hi => by simp [condD]; omega
    · rw [zcov]; exact Blk.new1 w _ _ 300 _
  case round =>
    obtain ⟨k, hk, rfl, R⟩ := hrel
    by_cases hlt : k < 24
    · have rc := R.out.upd.cellc HC.out
      have rf := (R.out.upd.frozen hcb).trans HF.out
      have b0 := R.out.blk.cell (i := 276 + k) (by omega)
      have b1 := R.out.blk.free (276 + k)
      have n0 := ne_of_cells rc b0
      have hv : condD f k (276 + k) = f (276 + k) := by simp [condD]
      rw [hv] at b0
      clear hv
      go_wp2_with (go_at_call 35; refine (variance_any c _ _ _ rc rf).mono ?_; rintro e w' ⟨rfl, rfl⟩)
      go_roundw
      case rel =>
        refine ⟨k + 1, by omega, by go_num, ⟨?_, ?_, ?_⟩⟩
        · rw [show (h || orB (fun i => varH (f (276 + i))) (k + 1)) = (h || orB (fun i => varH (f (276 + i))) k || clampH (f (276 + k)) 1 72057594037927936) from by simp [orB, varH, Bool.or_assoc]]
          exact (R.out.upd.trans (Upd.set c _ _)).setCell (Nat.le_refl _) _
        · refine ((R.out.blk.other (R.out.blk.flag rc) _).set _ _).congr fun i hi => ?_
          simp only [Go.Proofs.Ytpbgglkopfjagaa.upd, condD, varV]
          by_cases h1 : i = 276 + k
          · subst h1; simp
          · rw [if_neg h1]; split <;> split <;> first | rfl | omega
        · exact (R.out.res.other (R.out.res.flag rc) _).other (by simp) _
      case measure => simp [intOf]; omega
    · have hk24 : k = 24 := by omega
      subst hk24
      have HR := R
      clear R hlt hk
      rw [show ((24 : Nat) : Int) = 24 from rfl]
      go_wp2_with fail
      go_loopw [20] (fun i wr => ∃ k : Nat, k ≤ 276 ∧ i = .int .i64 k ∧ Hid (CondR c (h || orB (fun i => varH (f (276 + i))) 24 || orB (fun i => satH (f i)) k) (condU f k) w wr)) (fun i _ => 276 - (intOf i).toNat)
      case atStart =>
        refine ⟨0, by omega, rfl, ⟨?_, HR.out.blk.congr fun i hi => by simp [condD, condU]; split <;> split <;> first | rfl | omega, HR.out.res⟩⟩
        rw [show (h || orB (fun i => varH (f (276 + i))) 24 || orB (fun i => satH (f i)) 0) = (h || orB (fun i => varH (f (276 + i))) 24) from by simp [orB]]
        exact HR.out.upd
      case round =>
        obtain ⟨k, hk, rfl, R⟩ := hrel
        by_cases hlt : k < 276
        · have rc := R.out.upd.cellc HC.out
          have rf := (R.out.upd.frozen hcb).trans HF.out
          have b0 := R.out.blk.cell (i := k) (by omega)
          have b1 := R.out.blk.free k
          have n0 := ne_of_cells rc b0
          have hv : condU f k k = f k := by simp [condU]; omega
          rw [hv] at b0
          clear hv
          go_wp2_with (go_at_call 41; refine (clamp_any c _ _ _ _ _ rc rf).mono ?_; rintro e w' ⟨rfl, rfl⟩)
          go_roundw
          case rel =>
            refine ⟨k + 1, by omega, by go_num, ⟨?_, ?_, ?_⟩⟩
            · rw [show (h || orB (fun i => varH (f (276 + i))) 24 || orB (fun i => satH (f i)) (k + 1)) = (h || orB (fun i => varH (f (276 + i))) 24 || orB (fun i => satH (f i)) k || clampH (f k) (-1152921504606846976) 1152921504606846976) from by simp [orB, satH, Bool.or_assoc]]
              exact (R.out.upd.trans (Upd.set c _ _)).setCell (Nat.le_refl _) _
            · refine ((R.out.blk.other (R.out.blk.flag rc) _).set _ _).congr fun i hi => ?_
              simp only [Go.Proofs.Ytpbgglkopfjagaa.upd, condU, satV]
              by_cases h1 : i = k
              · subst h1; simp
              · rw [if_neg h1]; repeat' split
                all_goals first | rfl | omega
            · exact (R.out.res.other (R.out.res.flag rc) _).other (by simp) _
          case measure => simp [intOf]; omega
        · have hk276 : k = 276 := by omega
          subst hk276
          have B0 := R.out.blk
          have B1 := R.out.res
          have U := Lib.hid R.out.upd
          have hl := B1.lt
          clear R hlt hk HR
          go_wp2_with (first | (refine wpList_load_row rfl 26 _ rfl w.heap.size rfl 26 _ (0, 0) _ B0 Try.underlying26 rfl (icov.trans (by rw [arrv_size])) ?_) | (refine wpList_store_row rfl 26 _ _ rfl (w.heap.size + 1) _ rfl rfl 26 _ B1 (icov.trans (by rw [arrv_size])) (by rw [arrv_size, arrv_size]) (oneCell_arrv _ _) ?_))
          refine bodyPost_ret (results_cell_row Try.results19 _ _ (w.heap.size + 1) 26 (arrv 300 (condU f 276)) (0, 0) _ rfl (setRow_heap _ _ _ _ _ _ B1) Try.underlying26 rfl (icov.trans (by rw [arrv_size]))) rfl ⟨?_, ?_⟩
          · rw [arrv_congr (g := condF f) fun i hi => ?_]
            simp only [condU, condF]
            by_cases h1 : i < 276
            · simp [h1]
            · rw [if_neg h1, if_neg h1, if_pos (by omega)]
          · rw [show (h || condH f) = (h || orB (fun i => varH (f (276 + i))) 24 || orB (fun i => satH (f i)) 276) from by simp [condH, Bool.or_assoc]]
            exact U.out.then' (below_row (Below.refl _ _) (by omega) _)
end Go.Proofs.Ytpbgglkopfjagaa
/- Contracts of package tri (2): Good, place, U, Set. -/
namespace Go.Proofs.Ytpbgglkopfjagaa
open Go.RowKit
set_option maxRecDepth 100000
theorem tri_mod (j : Nat) : j * (j - 1) % 2 = 0 := by
  rcases Nat.mod_two_eq_zero_or_one j with h | h
  · rw [Nat.mul_mod, h]; simp
  · cases j with
    | zero => simp
    | succ n => rw [Nat.mul_mod, show (n + 1 - 1) % 2 = 0 by omega]; simp
theorem pl_lt {i j : Nat} (h : i < j) (hj : j < 24) : pl i j < 276 := by
  unfold pl
  have : j * (j - 1) ≤ 23 * 22 := Nat.mul_le_mul (by omega) (by omega)
  omega
theorem pl_cast (i j : Nat) : ((pl i j : Nat) : Int) = (j : Int) * ((j - 1 : Nat) : Int) / 2 + (i : Int) := by
  unfold pl
  rw [← Int.natCast_mul]
  omega
theorem place_any (i j : Nat) (w : World) (_hi : i < 24) (hj : j < 24) :
    Calls Try.prog 66 #[.int .i64 i, .int .i64 j] w fun e w' => e = .returned (.tuple #[.int .i64 (pl i j : Nat), .bool (decide (i < j))]) ∧ w = w' := by
  have hmul : (j : Int) * ((j : Int) - 1) = ((j * (j - 1) : Nat) : Int) := by
    cases j with
    | zero => simp
    | succ n => rw [Int.natCast_mul, show ((n + 1 : Nat) : Int) - 1 = ((n + 1 - 1 : Nat) : Int) from by omega]
  have hb : j * (j - 1) ≤ 23 * 22 := Nat.mul_le_mul (by omega) (by omega)
  have hc := pl_cast i j
  have HC := Lib.hid hc
  clear hc
  by_cases h : i < j
  · have hd : decide (i < j) = true := by simpa using h
    rw [hd]
    clear hd
    go_enter Try.func66, Try.ntmps66
    go_wp2
    go_ret2
    refine ⟨?_, rfl⟩
    rw [HC.out]
    simp only [hj, decide_true, Int.ofNat_lt, and_self]
    first | rfl | (simp; omega) | simp
  · have hd : decide (i < j) = false := by simpa using h
    rw [hd]
    go_enter Try.func66, Try.ntmps66
    go_wp2
    go_ret2
    refine ⟨?_, rfl⟩
    rw [HC.out]
    first | rfl | (simp; done) | (simp; omega)
/-- U's number of row i and column j. -/
def uV (f : Nat → Int) (i j : Nat) : Int := if i = j then 1073741824 else if i < j then f (pl i j) else 0
theorem u_any (f : Nat → Int) (i j : Nat) (w : World) (hi : i < 24) (hj : j < 24) :
    Calls Try.prog 45 #[.agg (arrv 300 f), .int .i64 i, .int .i64 j] w fun e w' => e = .returned (.int .i64 (uV f i j)) ∧ Below w.heap.size w w' := by
  by_cases h : i = j
  · subst h
    rw [show uV f i i = 1073741824 from by simp [uV]]
    go_enter Try.func45, Try.ntmps45
    go_wp2
    go_ret
    exact ⟨rfl, by (repeat (first | with_reducible exact Below.refl _ _ | with_reducible apply Below.drew | (with_reducible refine below_drewN ?_ _) | (with_reducible refine Below.alloc ?_ (by (try simp) <;> omega) _) | (with_reducible refine Below.setCell ?_ (by (try simp) <;> omega) _)))⟩
  · have hne : ((i : Int) == (j : Int)) = false := by simp; omega
    by_cases h1 : i < j
    · have hp := pl_lt h1 hj
      have ev : uV f i j = f (pl i j) := by simp [uV, h, h1]
      obtain ⟨p, hpp⟩ : ∃ p, pl i j = p := ⟨_, rfl⟩
      have PC := Lib.hid (place_any i j)
      rw [hpp] at hp ev PC
      rw [ev, show decide (i < j) = true from by simpa using h1] at *
      have b0 := (Blk.new w 26 300 f).cell (i := p) (by omega)
      clear h hpp ev
      go_enter Try.func45, Try.ntmps45
      go_wp2_with (go_at_call 66; refine (PC.out _ hi hj).mono ?_; rintro e w' ⟨rfl, rfl⟩)
      go_ret
      exact ⟨rfl, by (repeat (first | with_reducible exact Below.refl _ _ | with_reducible apply Below.drew | (with_reducible refine below_drewN ?_ _) | (with_reducible refine Below.alloc ?_ (by (try simp) <;> omega) _) | (with_reducible refine Below.setCell ?_ (by (try simp) <;> omega) _)))⟩
    · have ev : uV f i j = 0 := by simp [uV, h, h1]
      have PC := Lib.hid (place_any i j)
      rw [ev]
      rw [show decide (i < j) = false from by simpa using h1] at PC
      clear h ev
      go_enter Try.func45, Try.ntmps45
      go_wp2_with (go_at_call 66; refine (PC.out _ hi hj).mono ?_; rintro e w' ⟨rfl, rfl⟩)
      go_ret
      exact ⟨rfl, by (repeat (first | with_reducible exact Below.refl _ _ | with_reducible apply Below.drew | (with_reducible refine below_drewN ?_ _) | (with_reducible refine Below.alloc ?_ (by (try simp) <;> omega) _) | (with_reducible refine Below.setCell ?_ (by (try simp) <;> omega) _)))⟩
theorem set_any (f : Nat → Int) (i j : Nat) (v : Int) (w : World) (h1 : i < j) (hj : j < 24) :
    Calls Try.prog 46 #[.agg (arrv 300 f), .int .i64 i, .int .i64 j, .int .i64 v] w fun e w' => e = .returned (.agg (arrv 300 (upd f (pl i j) v))) ∧ Below w.heap.size w w' := by
  have hp := pl_lt h1 hj
  have hi : i < 24 := by omega
  obtain ⟨p, hpp⟩ : ∃ p, pl i j = p := ⟨_, rfl⟩
  have pc : ∀ w, Calls Try.prog 66 #[.int .i64 i, .int .i64 j] w fun e w' => e = .returned (.tuple #[.int .i64 p, .bool true]) ∧ w = w' := fun w => by
    have := place_any i j w hi hj
    rwa [hpp, show decide (i < j) = true from by simpa using h1] at this
  rw [hpp] at hp ⊢
  have PC := Lib.hid pc
  clear pc hpp h1 hi hj
  go_enter Try.func46, Try.ntmps46
  go_wp2_with fail
  have A0 := (Blk.new w 26 300 f).alloc (.cells Try.zeroCells26 26)
  have A1 := Blk.new1 w (.cells (arrv 300 f) 26) 26 300 (fun _ => 0)
  rw [← zcov] at A1
  have hb : Below w.heap.size w ((w.alloc (.cells (arrv 300 f) 26)).alloc (.cells Try.zeroCells26 26)) := by (repeat (first | with_reducible exact Below.refl _ _ | with_reducible apply Below.drew | (with_reducible refine below_drewN ?_ _) | (with_reducible refine Below.alloc ?_ (by (try simp) <;> omega) _) | (with_reducible refine Below.setCell ?_ (by (try simp) <;> omega) _)))
  refine (PC.out _).mono ?_; rintro e w' ⟨rfl, rfl⟩
  generalize (w.alloc (.cells (arrv 300 f) 26)).alloc (.cells Try.zeroCells26 26) = W at *
  have b0 := A0.cell (i := p) (by omega)
  have b1 := A0.free p
  have B0 := A0.set p v
  have B1 := A1.other (a := ⟨w.heap.size, p, none⟩) (by simp) (.int .i64 v)
  go_wp2_with (first | (refine wpList_load_row rfl 26 _ rfl w.heap.size rfl 26 _ (0, 0) _ B0 Try.underlying26 rfl (icov.trans (by rw [arrv_size])) ?_) | (refine wpList_store_row rfl 26 _ _ rfl (w.heap.size + 1) _ rfl rfl 26 _ B1 (icov.trans (by rw [arrv_size])) (by rw [arrv_size, arrv_size]) (oneCell_arrv _ _) ?_))
  refine bodyPost_ret (results_cell_row Try.results46 _ _ (w.heap.size + 1) 26 (arrv 300 (upd f p v)) (0, 0) _ rfl (setRow_heap _ _ _ _ _ _ B1) Try.underlying26 rfl (icov.trans (by rw [arrv_size]))) rfl ⟨rfl, ?_⟩
  exact below_row (hb.setCell (Nat.le_refl _) _) (by omega) _
end Go.Proofs.Ytpbgglkopfjagaa
/- Contracts of package thornton (1): One, rows. -/
namespace Go.Proofs.Ytpbgglkopfjagaa
open Go.RowKit
set_option maxRecDepth 100000
def oneF : Nat → Int := fun i => if i / 24 = i % 24 then 1073741824 else 0
def oneS (k : Nat) : Nat → Int := fun i => if i / 24 = i % 24 ∧ i / 24 < k then 1073741824 else 0

/-- Column k of U; row i of a matrix. -/
def colF (f : Nat → Int) (k : Nat) : Nat → Int := fun m => if m ≤ k then uV f m k else 0
def rwV (f F : Nat → Int) (i k : Nat) : Int := dotV 30 (rowF 24 F i) (colF f k) 24
def rwB (f F : Nat → Int) (i k : Nat) : Bool := dotH 30 (rowF 24 F i) (colF f k) 24
def rwS (f F : Nat → Int) (k i : Nat) : Nat → Int := fun j => if j % 48 < k ∨ (j % 48 = k ∧ j / 48 < i) then rwV f F (j / 48) (j % 48) else 0
def rwE (f F : Nat → Int) (i : Nat) : Nat → Int := fun j => if j % 48 = 24 + j / 48 ∧ j / 48 < i then 1073741824 else rwS f F 24 0 j
def rowsW (f F : Nat → Int) : Nat → Int := fun j => if j % 48 < 24 then rwV f F (j / 48) (j % 48) else if j % 48 = 24 + j / 48 then 1073741824 else 0
def rwH (f F : Nat → Int) (k : Nat) : Bool := orB (fun k => orB (fun i => rwB f F i k) 24) k
def rowsH (f F : Nat → Int) : Bool := rwH f F 24
theorem zcol : (#[.int .i64 0, .int .i64 0, .int .i64 0, .int .i64 0, .int .i64 0, .int .i64 0, .int .i64 0, .int .i64 0, .int .i64 0, .int .i64 0, .int .i64 0, .int .i64 0, .int .i64 0, .int .i64 0, .int .i64 0, .int .i64 0, .int .i64 0, .int .i64 0, .int .i64 0, .int .i64 0, .int .i64 0, .int .i64 0, .int .i64 0, .int .i64 0] : Array Value) = arrv 24 (fun _ => 0) := by kernel_rfl
end Go.Proofs.Ytpbgglkopfjagaa
/- Contract of thornton.rows. -/
namespace Go.Proofs.Ytpbgglkopfjagaa
open Go.RowKit
set_option maxRecDepth 100000
end Go.Proofs.Ytpbgglkopfjagaa
/- thornton.Step (1): the numbers, and the first loop. -/
namespace Go.Proofs.Ytpbgglkopfjagaa
open Go.RowKit
set_option maxRecDepth 100000
def qV (a : Int) : Int := clampV a 0 72057594037927936
def qH (a : Int) : Bool := clampH a 0 72057594037927936
/-- Step's first loop: E, and the matrix clamped. -/
def eS (p q : Nat → Int) (i : Nat) : Nat → Int := fun x => if x < i then p (276 + x) else if 24 ≤ x ∧ x < 24 + i then qV (q (x - 24)) else 0
def fS (F : Nat → Int) (i k : Nat) : Nat → Int := fun x => if x / 24 < i ∨ (x / 24 = i ∧ x % 24 < k) then satV (F x) else F x
def row1H (F : Nat → Int) (i k : Nat) : Bool := orB (fun k => satH (F (i * 24 + k))) k
def loop1H (q F : Nat → Int) (i : Nat) : Bool := orB (fun i => qH (q i) || row1H F i 24) i
theorem zvec : (#[.int .i64 0, .int .i64 0, .int .i64 0, .int .i64 0, .int .i64 0, .int .i64 0, .int .i64 0, .int .i64 0, .int .i64 0, .int .i64 0, .int .i64 0, .int .i64 0, .int .i64 0, .int .i64 0, .int .i64 0, .int .i64 0, .int .i64 0, .int .i64 0, .int .i64 0, .int .i64 0, .int .i64 0, .int .i64 0, .int .i64 0, .int .i64 0, .int .i64 0, .int .i64 0, .int .i64 0, .int .i64 0, .int .i64 0, .int .i64 0, .int .i64 0, .int .i64 0, .int .i64 0, .int .i64 0, .int .i64 0, .int .i64 0, .int .i64 0, .int .i64 0, .int .i64 0, .int .i64 0, .int .i64 0, .int .i64 0, .int .i64 0, .int .i64 0, .int .i64 0, .int .i64 0, .int .i64 0, .int .i64 0] : Array Value) = arrv 48 (fun _ => 0) := by kernel_rfl
/-- Step's answer. -/
def stepE (f q : Nat → Int) : Nat → Int := eS (condF f) q 24
def stepW (f F : Nat → Int) : Nat → Int := rowsW (condF f) (fS F 24 0)
def stepF (f F q : Nat → Int) : Nat → Int := ON (stepW f F) (stepE f q) 24
def stepH (f F q : Nat → Int) : Bool := condH f || loop1H q F 24 || rowsH (condF f) (fS F 24 0) || HN (stepW f F) (stepE f q) 24
end Go.Proofs.Ytpbgglkopfjagaa
/- Contract of tri.New: noughts above the diagonal, the variances given, and the least variance where none is given. -/
namespace Go.Proofs.Ytpbgglkopfjagaa
open Go.RowKit
set_option maxRecDepth 100000
def newF (n : Nat) (L : Nat → Int) : Nat → Int := fun i => if i < 276 then 0 else if i - 276 < n then varV (L (i - 276)) else 1
def newB (n : Nat) (L : Nat → Int) (i : Nat) : Bool := if i < n then varH (L i) else false
def newH (n : Nat) (L : Nat → Int) : Bool := orB (newB n L) 24
def newI (n : Nat) (L : Nat → Int) (k : Nat) : Nat → Int := fun i => if i < 276 then 0 else if i < 276 + k then (if i - 276 < n then varV (L (i - 276)) else 1) else 0
theorem new_any (c : Addr) (h : Bool) (p : Option Addr) (n cp : Nat) (L : Nat → Int) (w : World) (hc : w.cell? c = some (.bool h)) (hf : w.frozen? c = false) (hL : Slc w p n L) :
    Calls Try.prog 16 #[.pointer (some c), .slice p n cp] w fun e w' => e = .returned (.agg (arrv 300 (newF n L))) ∧ Upd c (h || newH n L) w w' := by
  have hcb := World.block_lt_of_cell? w c hc
  have HC := Lib.hid hc
  have HF := Lib.hid hf
  have HL := Lib.hid hL
  clear hc hf hL
  go_enter Try.func16, Try.ntmps16
  go_wp2_with fail
  go_loopw [7] (fun i wr => ∃ k : Nat, k ≤ 24 ∧ i = .int .i64 k ∧ Hid (Upd c (h || orB (newB n L) k) w wr ∧ Blk wr w.heap.size 26 300 (fun _ => 0) ∧ Blk wr (w.heap.size + 1) 26 300 (newI n L k))) (fun i _ => 24 - (intOf i).toNat)
  case atStart =>
    refine ⟨0, by omega, rfl, ?_, ?_, ?_⟩
    · rw [show (h || orB (newB n L) 0) = h from by simp [orB]]
      exact Upd.then (Upd.refl HC.out) (by (repeat (first | with_reducible exact Below.refl _ _ | with_reducible apply Below.drew | (with_reducible refine below_drewN ?_ _) | (with_reducible refine Below.alloc ?_ (by (try simp) <;> omega) _) | (with_reducible refine Below.setCell ?_ (by (try simp) <;> omega) _))))
    · rw [zcov]; exact (Blk.new w _ _ _).alloc _
    · rw [zcov]; exact (Blk.new1 w _ _ _ _).congr fun i hi => by simp only [newI]; split <;> first | rfl | (rw [if_neg (by omega)])
  case round =>
    obtain ⟨k, hk, rfl, R⟩ := hrel
    by_cases hlt : k < 24
    · have d1 : decide ((k : Int) < 24) = true := by simp; omega
      have b0 := R.out.2.2.cell (i := 276 + k) (by omega)
      have b1 := R.out.2.2.free (276 + k)
      by_cases hkn : k < n
      · have d2 : decide ((k : Int) < (n : Int)) = true := by simp; omega
        obtain ⟨pb, po, rfl, hcell⟩ := HL.out k hkn
        have hne : (⟨pb, po + k, none⟩ : Addr) ≠ c := fun e => by rw [e, HC.out] at hcell; cases hcell
        have hpl := World.block_lt_of_cell? _ _ hcell
        have U1 : Upd c (h || orB (newB n L) k) w (wr.setCell ⟨w.heap.size + 1, 276 + k, none⟩ (.int .i64 1)) := R.out.1.setCell (by simp) _
        have rc := U1.cellc HC.out
        have rf := (U1.frozen hcb).trans HF.out
        have hcell' : wr.cell? ⟨pb, po + k, none⟩ = some (.int .i64 (L k)) := (R.out.1.cell hpl (Ne.symm hne)).trans hcell
        have hpn : pb ≠ w.heap.size + 1 := by simp at hpl; omega
        have hcell2 : (wr.setCell ⟨w.heap.size + 1, 276 + k, none⟩ (.int .i64 1)).cell? ⟨pb, po + k, none⟩ = some (.int .i64 (L k)) := (World.cell?_setCell_other _ _ _ _ (by intro e; injection e; omega)).trans hcell'
        have CC := Lib.hid (variance_any c _ (L k) _ rc rf)
        have S0 := Lib.hid (R.out.2.2.set (276 + k) 1)
        have T0 := Lib.hid (R.out.2.1.other (a := ⟨w.heap.size + 1, 276 + k, none⟩) (by simp) (.int .i64 1))
        have HU1 := Lib.hid U1
        clear U1 rc rf hcell' R
        go_wp2_with (go_at_call 35; refine CC.out.mono ?_; rintro e w' ⟨rfl, hw'⟩; have U3 := (Upd.set c (h || orB (newB n L) k || varH (L k)) (wr.setCell ⟨w.heap.size + 1, 276 + k, none⟩ (.int .i64 1))).then (by rw [show varH (L k) = clampH (L k) 1 72057594037927936 from rfl, hw']; exact Below.refl _ _); have HU2 := Lib.hid (HU1.out.trans U3); have S2 := S0.out.upd U3 (by have := hcb; omega); have HR2 := Lib.hid (T0.out.upd U3 (by have := hcb; omega)); have c0 := S2.cell (i := 276 + k) (by omega); have c1 := S2.free (276 + k); have HS2 := Lib.hid S2; clear hw' U3 S2)
        go_roundw
        case rel =>
          refine ⟨k + 1, by omega, by go_num, ?_, HR2.out.other (by simp) _, ?_⟩
          · rw [show (h || orB (newB n L) (k + 1)) = (h || orB (newB n L) k || varH (L k)) from by simp [orB, newB, hkn, Bool.or_assoc]]
            exact HU2.out.setCell (by simp) _
          · refine (HS2.out.set _ _).congr fun i hi => ?_
            simp only [Go.Proofs.Ytpbgglkopfjagaa.upd, newI]
            by_cases h1 : i = 276 + k
            · subst h1; rw [if_pos rfl, if_neg (by omega), if_pos (by omega), show 276 + k - 276 = k by omega, if_pos hkn]; rfl
            · rw [if_neg h1, if_neg h1]; split <;> first | rfl | (split <;> split <;> first | rfl | omega)
        case measure => simp [intOf]; omega
      · have d2 : decide ((k : Int) < (n : Int)) = false := by simp; omega
        go_wp2_with fail
        go_roundw
        case rel =>
          refine ⟨k + 1, by omega, by go_num, ?_, R.out.2.1.other (by simp) _, ?_⟩
          · rw [show (h || orB (newB n L) (k + 1)) = (h || orB (newB n L) k) from by simp [orB, newB, hkn]]
            exact R.out.1.setCell (by simp) _
          · refine (R.out.2.2.set _ _).congr fun i hi => ?_
            simp only [Go.Proofs.Ytpbgglkopfjagaa.upd, newI]
            by_cases h1 : i = 276 + k
            · subst h1; rw [if_pos rfl, if_neg (by omega), if_pos (by omega), show 276 + k - 276 = k by omega, if_neg hkn]
            · rw [if_neg h1]; split; rfl; split <;> split <;> first | rfl | omega
        case measure => simp [intOf]; omega
    · have hk24 : k = 24 := by omega
      subst hk24
      have B0 := R.out.2.1
      have B1 := R.out.2.2
      have HB := Lib.hid R.out.1
      clear R hlt hk
      rw [show ((24 : Nat) : Int) = 24 from rfl]
      go_wp2_with (first | (refine wpList_load_row rfl 26 _ rfl (w.heap.size + 1) rfl 26 _ (0, 0) _ B1 Try.underlying26 rfl (icov.trans (by rw [arrv_size])) ?_) | (refine wpList_store_row rfl 26 _ _ rfl w.heap.size _ rfl rfl 26 _ B0 (icov.trans (by rw [arrv_size])) (by rw [arrv_size, arrv_size]) (oneCell_arrv _ _) ?_))
      refine bodyPost_ret (results_cell_row Try.results16 _ _ w.heap.size 26 (arrv 300 (newI n L 24)) (0, 0) _ rfl (setRow_heap _ _ _ _ _ _ B0) Try.underlying26 rfl (icov.trans (by rw [arrv_size]))) rfl ⟨?_, ?_⟩
      · rw [arrv_congr (g := newF n L) fun i hi => by simp only [newI, newF]; split <;> first | rfl | (rw [if_pos (by omega)])]
      · exact HB.out.then' (below_row (Below.refl _ _) (Nat.le_refl _) _)
end Go.Proofs.Ytpbgglkopfjagaa
/- Contract of thornton.With: Step with One and the noises given. -/
namespace Go.Proofs.Ytpbgglkopfjagaa
open Go.RowKit
set_option maxRecDepth 100000
/-- The numbers copied into 24 noughts. -/
def copyF (n : Nat) (L : Nat → Int) : Nat → Int := fun i => if i < n then L i else 0
def copyL (n : Nat) (L : Nat → Int) : List Value := (List.range (min n 24)).map fun i => .int .i64 (L i)
theorem length_copyL (n : Nat) (L : Nat → Int) : (copyL n L).length = min n 24 := by simp [copyL]
theorem copyL_get {n : Nat} {L : Nat → Int} {j : Nat} {v : Value} (h : (copyL n L)[j]? = some v) : j < n ∧ v = .int .i64 (L j) := by
  simp only [copyL, List.getElem?_map, Option.map_eq_some_iff] at h
  obtain ⟨x, hx, rfl⟩ := h
  obtain ⟨h1, h2⟩ := List.getElem?_eq_some_iff.1 hx
  simp at h1 h2
  subst h2
  exact ⟨by omega, rfl⟩
theorem splice_copy (n : Nat) (L : Nat → Int) : (splice (arrv 24 (fun _ => 0)).toList 0 (copyL n L)).toArray = arrv 24 (copyF n L) := by
  apply Array.ext_getElem?
  intro i
  simp only [splice, List.take_zero, List.nil_append, Nat.zero_add, length_copyL, List.getElem?_toArray, List.getElem?_append, List.getElem?_drop, Array.getElem?_toList]
  by_cases hi : i < 24
  · rw [arrv_get (f := copyF n L) hi]
    split
    · rename_i h
      have : i < n := by omega
      simp [copyL, copyF, this, h]
    · rename_i h
      rw [show min n 24 + (i - min n 24) = i by omega, arrv_get hi]
      have : ¬ i < n := by omega
      simp [copyF, this]
  · rw [Array.getElem?_eq_none (xs := arrv 24 (copyF n L)) (by rw [arrv_size]; omega)]
    rw [if_neg (by omega), Array.getElem?_eq_none (by rw [arrv_size]; omega)]
end Go.Proofs.Ytpbgglkopfjagaa
/- bierman's numbers: what an update reckons with, and what it makes. No program. -/
namespace Go.Proofs.Ytpbgglkopfjagaa
/-- The first n numbers clamped, the others as they were. -/
def satS (H : Nat → Int) (n : Nat) : Nat → Int := fun i => if i < n then satV (H i) else H i
/-- Of the factors p (conditioned) and the row h (clamped): f, v, a. -/
def bkF (p h : Nat → Int) (j : Nat) : Int := dotV 30 h (colF p j) (j + 1)
def bkV (p h : Nat → Int) (j : Nat) : Int := mulV (p (276 + j)) (bkF p h j) 30
def bkA (p h : Nat → Int) (r : Int) : Nat → Int | 0 => r | j + 1 => addV (bkA p h r j) (mulV (bkF p h j) (bkV p h j) 30)
def bkFH (p h : Nat → Int) (j : Nat) : Bool := dotH 30 h (colF p j) (j + 1)
def bkVH (p h : Nat → Int) (j : Nat) : Bool := mulH (p (276 + j)) (bkF p h j) 30
def bkAH (p h : Nat → Int) (r : Int) (j : Nat) : Bool := mulH (bkF p h j) (bkV p h j) 30 || addH (bkA p h r j) (mulV (bkF p h j) (bkV p h j) 30)
def bkS (p h : Nat → Int) (r : Int) (j : Nat) : Bool := bkFH p h j || bkVH p h j || bkAH p h r j
/-- What look tells: 300 numbers of the factors, then f, v (24 each), a (25). -/
def lkP (p : Nat → Int) : Nat → Int := condF p
def lkH (p h : Nat → Int) (r : Int) : Bool := condH p || orB (fun i => satH (h i)) 24 || varH r || orB (bkS (condF p) (satS h 24) (varV r)) 24
/-- Update: row j of the gains' numbers, and the factors. -/
def upX (p h : Nat → Int) (r : Int) (j : Nat) : Int := -divV (bkF p h j) (bkA p h r j) 44
def upD (p h : Nat → Int) (r : Int) (j : Nat) : Int := varV (mdivV (p (276 + j)) (bkA p h r j) (bkA p h r (j + 1)))
/-- b, when j columns are done and of column j the first m rows. -/
def upB (p h : Nat → Int) : Nat → Nat → Int
  | 0 => fun _ => 0
  | j + 1 => fun i => if i = j then bkV p h j else if i < j then addV (upB p h j i) (mulV (uV p i j) (bkV p h j) 30) else upB p h j i
def upBm (p h : Nat → Int) (j m : Nat) : Nat → Int :=
  fun i => if i = j then bkV p h j else if i < m then addV (upB p h j i) (mulV (uV p i j) (bkV p h j) 30) else upB p h j i
def upU (p h : Nat → Int) (r : Int) (j i : Nat) : Int := addV (uV p i j) (mulV (upB p h j i) (upX p h r j) 44)
/-- The factors: column j begun, and m of its numbers made. -/
def upOm (O p h : Nat → Int) (r : Int) (j : Nat) : Nat → Nat → Int | 0 => upd O (276 + j) (upD p h r j) | m + 1 => upd (upOm O p h r j m) (pl m j) (upU p h r j m)
def upO (p h : Nat → Int) (r : Int) : Nat → Nat → Int | 0 => p | j + 1 => upOm (upO p h r j) p h r j j
def upDH (p h : Nat → Int) (r : Int) (j : Nat) : Bool := mdivH (p (276 + j)) (bkA p h r j) (bkA p h r (j + 1)) || varH (mdivV (p (276 + j)) (bkA p h r j) (bkA p h r (j + 1)))
def upXH (p h : Nat → Int) (r : Int) (j : Nat) : Bool := divH (bkF p h j) (bkA p h r j) 44
def upUH (p h : Nat → Int) (r : Int) (j i : Nat) : Bool := mulH (upB p h j i) (upX p h r j) 44 || addH (uV p i j) (mulV (upB p h j i) (upX p h r j) 44)
def upBH (p h : Nat → Int) (j i : Nat) : Bool := mulH (uV p i j) (bkV p h j) 30 || addH (upB p h j i) (mulV (uV p i j) (bkV p h j) 30)
def upRH (p h : Nat → Int) (r : Int) (j i : Nat) : Bool := upUH p h r j i || upBH p h j i
def upCH (p h : Nat → Int) (r : Int) (j : Nat) : Bool := upDH p h r j || upXH p h r j || orB (upRH p h r j) j
def upG (p h : Nat → Int) (r : Int) (i : Nat) : Int := divV (upB p h 24 i) (bkA p h r 24) 30
def upGH (p h : Nat → Int) (r : Int) (i : Nat) : Bool := divH (upB p h 24 i) (bkA p h r 24) 30
/-- Update's answer, of what was given. -/
def updP (p h : Nat → Int) (r : Int) : Nat → Int := upO (condF p) (satS h 24) (varV r) 24
def updG (p h : Nat → Int) (r : Int) : Nat → Int := upG (condF p) (satS h 24) (varV r)
def updS (p h : Nat → Int) (r : Int) : Int := bkA (condF p) (satS h 24) (varV r) 24
def updH (p h : Nat → Int) (r : Int) : Bool := lkH p h r || orB (upCH (condF p) (satS h 24) (varV r)) 24 || orB (upGH (condF p) (satS h 24) (varV r)) 24
end Go.Proofs.Ytpbgglkopfjagaa
/- Contract of bierman.Pick. -/
namespace Go.Proofs.Ytpbgglkopfjagaa
open Go.RowKit
set_option maxRecDepth 100000
theorem irow : (Try.prog.info? 39).map (·.size) = some 24 := by kernel_rfl
theorem zrow : (#[.int .i64 0, .int .i64 0, .int .i64 0, .int .i64 0, .int .i64 0, .int .i64 0, .int .i64 0, .int .i64 0, .int .i64 0, .int .i64 0, .int .i64 0, .int .i64 0, .int .i64 0, .int .i64 0, .int .i64 0, .int .i64 0, .int .i64 0, .int .i64 0, .int .i64 0, .int .i64 0, .int .i64 0, .int .i64 0, .int .i64 0, .int .i64 0] : Array Value) = arrv 24 (fun _ => 0) := by kernel_rfl
/-- One at each state that is named. -/
def pkS (L : Nat → Int) : Nat → Nat → Int | 0 => fun _ => 0 | n + 1 => if 0 ≤ L n ∧ L n < 24 then upd (pkS L n) (L n).toNat 1073741824 else pkS L n
theorem pick_any (p : Option Addr) (n cp : Nat) (L : Nat → Int) (w : World) (hL : Slc w p n L) (hn : n ≤ 9223372036854775807) :
    Calls Try.prog 17 #[.slice p n cp] w fun e w' => e = .returned (.agg (arrv 24 (pkS L n))) ∧ Below w.heap.size w w' := by
  have HL := Lib.hid hL
  clear hL
  go_enter Try.func17, Try.ntmps17
  go_wp2_with fail
  go_loopw [8] (fun i wr => ∃ k : Nat, k ≤ n ∧ i = .int .i64 k ∧ Hid (Below w.heap.size w wr ∧ Blk wr w.heap.size 39 24 (fun _ => 0) ∧ Blk wr (w.heap.size + 1) 39 24 (pkS L k))) (fun i _ => n - (intOf i).toNat)
  case atStart =>
    refine ⟨0, by omega, rfl, by (repeat (first | with_reducible exact Below.refl _ _ | with_reducible apply Below.drew | (with_reducible refine below_drewN ?_ _) | (with_reducible refine Below.alloc ?_ (by (try simp) <;> omega) _) | (with_reducible refine Below.setCell ?_ (by (try simp) <;> omega) _))), ?_, ?_⟩
    · rw [zrow]; exact (Blk.new w _ _ _).alloc _
    · rw [zrow]; exact Blk.new1 w _ _ _ _
  case round =>
    obtain ⟨k, hk, rfl, R⟩ := hrel
    by_cases hlt : k < n
    · have d1 : decide ((k : Int) < (n : Int)) = true := by simp; omega
      obtain ⟨pb, po, rfl, hcell⟩ := HL.out k hlt
      have hc1 : wr.cell? ⟨pb, po + k, none⟩ = some (.int .i64 (L k)) := (R.out.1.cell (World.block_lt_of_cell? _ _ hcell)).trans hcell
      by_cases h0 : 0 ≤ L k
      · by_cases h1 : L k < 24
        · have hx : ((L k).toNat : Int) = L k := by omega
          obtain ⟨x, hxk⟩ : ∃ x, (L k).toNat = x := ⟨_, rfl⟩
          have hLx : L k = (x : Int) := by omega
          have hxl : x < 24 := by omega
          rw [hLx] at hc1
          have b0 := R.out.2.2.cell (i := x) hxl
          have b1 := R.out.2.2.free x
          have HX := Lib.hid hLx
          have HR := Lib.hid R.out
          clear hx hxk hLx h0 h1 R hcell
          have hx0 : (0 : Int) ≤ (x : Int) := Int.natCast_nonneg _
          have hx1 : (x : Int) < 24 := by omega
          go_wp2_with fail
          go_roundw
          case rel =>
            refine ⟨k + 1, by omega, by go_num, HR.out.1.setCell (by simp) _, HR.out.2.1.other (by simp) _, ?_⟩
            have := HR.out.2.2.set x 1073741824
            have e : pkS L (k + 1) = upd (pkS L k) x 1073741824 := by
              simp only [pkS]
              rw [if_pos (by rw [HX.out]; omega), HX.out]; rfl
            rw [e]; exact this
          case measure => simp [intOf]; omega
        · have d2 : decide (L k < 24) = false := by simp; omega
          have d3 : decide (0 ≤ L k) = true := by simp; omega
          have HR := Lib.hid R.out
          have e : pkS L (k + 1) = pkS L k := by simp only [pkS]; rw [if_neg (by omega)]
          have HE := Lib.hid e
          clear R hcell e
          go_wp2_with fail
          go_roundw
          case rel =>
            refine ⟨k + 1, by omega, by go_num, HR.out.1, HR.out.2.1, ?_⟩
            rw [HE.out]; exact HR.out.2.2
          case measure => simp [intOf]; omega
      · have d3 : decide (0 ≤ L k) = false := by simp; omega
        have HR := Lib.hid R.out
        have e : pkS L (k + 1) = pkS L k := by simp only [pkS]; rw [if_neg (by omega)]
        have HE := Lib.hid e
        clear R hcell e
        go_wp2_with fail
        go_roundw
        case rel =>
          refine ⟨k + 1, by omega, by go_num, HR.out.1, HR.out.2.1, ?_⟩
          rw [HE.out]; exact HR.out.2.2
        case measure => simp [intOf]; omega
    · obtain rfl : k = n := by omega
      have B0 := R.out.2.1
      have B1 := R.out.2.2
      have HB := Lib.hid R.out.1
      clear R hlt hk
      go_wp2_with (first | (refine wpList_load_row rfl 39 _ rfl (w.heap.size + 1) rfl 39 _ (0, 0) _ B1 Try.underlying39 rfl (irow.trans (by rw [arrv_size])) ?_) | (refine wpList_store_row rfl 39 _ _ rfl w.heap.size _ rfl rfl 39 _ B0 (irow.trans (by rw [arrv_size])) (by rw [arrv_size, arrv_size]) (oneCell_arrv _ _) ?_))
      refine bodyPost_ret (results_cell_row Try.results17 _ _ w.heap.size 39 (arrv 24 (pkS L k)) (0, 0) _ rfl (setRow_heap _ _ _ _ _ _ B0) Try.underlying39 rfl (irow.trans (by rw [arrv_size]))) rfl ⟨rfl, ?_⟩
      exact below_row HB.out (Nat.le_refl _) _
end Go.Proofs.Ytpbgglkopfjagaa
/- Contract of bierman.Gain. -/
namespace Go.Proofs.Ytpbgglkopfjagaa
open Go.RowKit
set_option maxRecDepth 100000
def gnF (K : Nat → Int) (y : Int) (n : Nat) : Nat → Int := fun i => if i < n then mulV (K i) y 30 else K i
def gnB (K : Nat → Int) (y : Int) (i : Nat) : Bool := mulH (K i) y 30
theorem gain_any (c : Addr) (h : Bool) (K : Nat → Int) (y : Int) (w : World) (hc : w.cell? c = some (.bool h)) (hf : w.frozen? c = false) :
    Calls Try.prog 24 #[.pointer (some c), .agg (arrv 24 K), .int .i64 y] w fun e w' => e = .returned (.agg (arrv 24 (gnF K y 24))) ∧ Upd c (h || orB (gnB K y) 24) w w' := by
  have hcb := World.block_lt_of_cell? w c hc
  have HC := Lib.hid hc
  have HF := Lib.hid hf
  clear hc hf
  go_enter Try.func24, Try.ntmps24
  go_wp2_with fail
  go_loopw [8] (fun i wr => ∃ k : Nat, k ≤ 24 ∧ i = .int .i64 k ∧ Hid (Upd c (h || orB (gnB K y) k) w wr ∧ Blk wr w.heap.size 39 24 (gnF K y k) ∧ Blk wr (w.heap.size + 1) 39 24 (fun _ => 0))) (fun i _ => 24 - (intOf i).toNat)
  case atStart =>
    refine ⟨0, by omega, rfl, ?_, ?_, ?_⟩
    · rw [show (h || orB (gnB K y) 0) = h from by simp [orB]]
      exact Upd.then (Upd.refl HC.out) (by (repeat (first | with_reducible exact Below.refl _ _ | with_reducible apply Below.drew | (with_reducible refine below_drewN ?_ _) | (with_reducible refine Below.alloc ?_ (by (try simp) <;> omega) _) | (with_reducible refine Below.setCell ?_ (by (try simp) <;> omega) _))))
    · rw [show gnF K y 0 = K from by funext i; simp [gnF]]; exact (Blk.new w _ _ _).alloc _
    · rw [zrow]; exact Blk.new1 w _ _ _ _
  case round =>
    obtain ⟨k, hk, rfl, R⟩ := hrel
    by_cases hlt : k < 24
    · have d1 : decide ((k : Int) < 24) = true := by simp; omega
      have b0 := R.out.2.1.cell (i := k) (by omega)
      rw [show gnF K y k k = K k from by simp [gnF]] at b0
      have rc := R.out.1.cellc HC.out
      have rf := (R.out.1.frozen hcb).trans HF.out
      have CC := Lib.hid (fmul_any c _ (K k) y 30 _ rc rf)
      clear rc rf
      go_wp2_with (go_at_call 48; refine CC.out.mono ?_; rintro e w' ⟨rfl, u⟩; have HU2 := Lib.hid (R.out.1.trans u); have S2 := R.out.2.1.upd u (by have := hcb; omega); have HR2 := Lib.hid (R.out.2.2.upd u (by have := hcb; omega)); have c0 := S2.cell (i := k) (by omega); have c1 := S2.free k; have HS2 := Lib.hid S2; clear u S2)
      go_roundw
      case rel =>
        refine ⟨k + 1, by omega, by go_num, ?_, ?_, HR2.out.other (by simp) _⟩
        · rw [show (h || orB (gnB K y) (k + 1)) = (h || orB (gnB K y) k || mulH (K k) y 30) from by simp [orB, gnB, Bool.or_assoc]]
          exact HU2.out.setCell (by simp) _
        · refine (HS2.out.set _ _).congr fun i hi => ?_
          simp only [Go.Proofs.Ytpbgglkopfjagaa.upd, gnF]
          by_cases h1 : i = k
          · subst h1; rw [if_pos rfl, if_pos (by omega)]
          · rw [if_neg h1]; split <;> split <;> first | rfl | omega
      case measure => simp [intOf]; omega
    · have hk24 : k = 24 := by omega
      subst hk24
      have B0 := R.out.2.1
      have B1 := R.out.2.2
      have HB := Lib.hid R.out.1
      clear R hlt hk
      go_wp2_with (first | (refine wpList_load_row rfl 39 _ rfl w.heap.size rfl 39 _ (0, 0) _ B0 Try.underlying39 rfl (irow.trans (by rw [arrv_size])) ?_) | (refine wpList_store_row rfl 39 _ _ rfl (w.heap.size + 1) _ rfl rfl 39 _ B1 (irow.trans (by rw [arrv_size])) (by rw [arrv_size, arrv_size]) (oneCell_arrv _ _) ?_))
      refine bodyPost_ret (results_cell_row Try.results24 _ _ (w.heap.size + 1) 39 (arrv 24 (gnF K y 24)) (0, 0) _ rfl (setRow_heap _ _ _ _ _ _ B1) Try.underlying39 rfl (irow.trans (by rw [arrv_size]))) rfl ⟨rfl, ?_⟩
      exact HB.out.then' (below_row (Below.refl _ _) (by first | omega | simp) _)
end Go.Proofs.Ytpbgglkopfjagaa
/- append of one number of int64 to a slice of the call's own. -/
namespace Go.Proofs.Ytpbgglkopfjagaa
open Go.RowKit
open Go
theorem info_i64 : (Try.prog.info? 2).map (fun i => (i.zero, i.size, i.bytes)) = some (some (.int .i64 0), 1, 8) := by kernel_rfl
theorem info_i64' : ∃ i, Try.prog.info? 2 = some i ∧ i.zero = some (.int .i64 0) ∧ i.size = 1 ∧ i.bytes = 8 := by
  have h := info_i64
  cases e : Try.prog.info? 2 with
  | none => rw [e] at h; cases h
  | some i => rw [e] at h; simp at h; exact ⟨i, rfl, h.1, h.2.1, h.2.2⟩
theorem own_snoc {n : Nat} {L : Nat → Int} {x : Int} : ints n L ++ [.int .i64 x] = ints (n + 1) (upd L n x) := by
  rw [ints_succ]
  congr 1
  · exact ints_congr fun i hi => by simp [upd, show ¬ i = n by omega]
  · simp [upd]
theorem run_app1 {w : World} (B : Nat) {v : Value} {n : Nat} {L : Nat → Int} (hown : Own w B 2 v n L) (nb c : Nat) (x : Int) (hx : w.cell? ⟨nb, 0, none⟩ = some (.int .i64 x)) (hn : n ≤ 1000000) (hB : B ≤ w.heap.size) (ty : TypeId) (H : Nat) (hH : w.heap.size = H) :
    ∃ g cap w', (Builtin.append_ #[77, 77] ty #[v, .slice (some ⟨nb, 0, none⟩) 1 c]).run Try.prog w = .ok (.slice (some ⟨g, 0, none⟩) (n + 1) cap) w' ∧
      Own w' B 2 (.slice (some ⟨g, 0, none⟩) (n + 1) cap) (n + 1) (upd L n x) ∧ w.grownBy w' v.ownBlock ∧ (v.ownBlock = some g ∨ g = H) ∧ g < w'.heap.size := by
  obtain ⟨i, hi, hz, hs, hb⟩ := info_i64'
  obtain ⟨g, cap, w', h1, h2, h3, h4, h5⟩ := run_append_lies (P := Try.prog) w 77 ty B 2 i (.int .i64 0) 1 8 Try.underlying77 hi hz hs hb rfl (by decide) v n (ints n L) hown ⟨nb, 0, none⟩ 1 c [.int .i64 x] rfl
    (fun j u hu => by
      have hj : j = 0 := by
        have := List.getElem?_eq_some_iff.1 hu
        obtain ⟨h, _⟩ := this
        simpa using h
      subst hj
      simp at hu
      subst hu
      simpa [Addr.add] using hx) (fun u hu => by rw [List.mem_singleton] at hu; subst hu; rfl) (by decide) (by unfold maxLen; omega) (by omega) hB H hH
  exact ⟨g, cap, w', h1, by unfold Own; rw [← own_snoc]; exact h2, h3, h4, h5⟩
theorem wp_app1 {w : World} {o : Oper} {a : Act} {K : Act → World → Prop} {Q : Exit → Act → World → Prop} (s x : Operand)
    (ho : o.op = .call { callee := .builtin .append, args := #[s, x], argTypes := #[77, 77] })
    (B : Nat) {v : Value} {n : Nat} {L : Nat → Int} (hs : a.eval s = v) (hown : Own w B 2 v n L) (nb c : Nat) (y : Int) (hx : a.eval x = .slice (some ⟨nb, 0, none⟩) 1 c) (hy : w.cell? ⟨nb, 0, none⟩ = some (.int .i64 y)) (hn : n ≤ 1000000) (hB : B ≤ w.heap.size) (H : Nat) (hH : w.heap.size = H)
    (h : ∀ g cap w', Own w' B 2 (.slice (some ⟨g, 0, none⟩) (n + 1) cap) (n + 1) (upd L n y) → w.grownBy w' v.ownBlock → (v.ownBlock = some g ∨ g = H) → g < w'.heap.size → K (a.put o.dst (.slice (some ⟨g, 0, none⟩) (n + 1) cap)) w') : o.wp Try.prog a w K Q := by
  obtain ⟨g, cap, w', hr, h2, h3, h4, h5⟩ := run_app1 B hown nb c y hy hn hB o.type H hH
  unfold Oper.wp execOp
  simp only [ho, resolve, invoke, builtin, Sem.run_bind, Sem.run_pure, Result.andThen_ok, List.map_toArray, List.map_cons, List.map_nil, hs, hx, hr]
  exact h g cap w' h2 h3 h4 h5
theorem wpList_app1 {w : World} {ops : Array Oper} {rest : List Oper} {o : Oper} {a : Act} {Q : Exit → Act → World → Prop} (hgd : o.guard = none) (s x : Operand)
    (ho : o.op = .call { callee := .builtin .append, args := #[s, x], argTypes := #[77, 77] })
    (B : Nat) {v : Value} {n : Nat} {L : Nat → Int} (hs : a.eval s = v) (hown : Own w B 2 v n L) (nb c : Nat) (y : Int) (hx : a.eval x = .slice (some ⟨nb, 0, none⟩) 1 c) (hy : w.cell? ⟨nb, 0, none⟩ = some (.int .i64 y)) (hn : n ≤ 1000000) (hB : B ≤ w.heap.size) (H : Nat) (hH : w.heap.size = H)
    (h : ∀ g cap w', Own w' B 2 (.slice (some ⟨g, 0, none⟩) (n + 1) cap) (n + 1) (upd L n y) → w.grownBy w' v.ownBlock → (v.ownBlock = some g ∨ g = H) → g < w'.heap.size → wpList Try.prog ops Q rest (a.put o.dst (.slice (some ⟨g, 0, none⟩) (n + 1) cap)) w') : wpList Try.prog ops Q (o :: rest) a w :=
  wpList_plain hgd fun _ hK => wp_app1 s x ho B hs hown nb c y hx hy hn hB H hH fun g cap w' h2 h3 h4 h5 => hK _ _ (h g cap w' h2 h3 h4 h5)
theorem step_app1 {w : World} {ops : Array Oper} {o : Oper} {a : Act} {K : Act → World → Prop} {Q : Exit → Act → World → Prop} {E : Prop} (hgd : o.guard = none) (s x : Operand)
    (ho : o.op = .call { callee := .builtin .append, args := #[s, x], argTypes := #[77, 77] })
    (B : Nat) {v : Value} {n : Nat} {L : Nat → Int} (hs : a.eval s = v) (hown : Own w B 2 v n L) (nb c : Nat) (y : Int) (hx : a.eval x = .slice (some ⟨nb, 0, none⟩) 1 c) (hy : w.cell? ⟨nb, 0, none⟩ = some (.int .i64 y)) (hn : n ≤ 1000000) (hB : B ≤ w.heap.size) (H : Nat) (hH : w.heap.size = H)
    (h : ∀ g cap w', Own w' B 2 (.slice (some ⟨g, 0, none⟩) (n + 1) cap) (n + 1) (upd L n y) → w.grownBy w' v.ownBlock → (v.ownBlock = some g ∨ g = H) → g < w'.heap.size → K (a.put o.dst (.slice (some ⟨g, 0, none⟩) (n + 1) cap)) w') :
    if Region.wanted o (yielded ops a.tmps) = true then Oper.wp Try.prog o a w K Q else E := by
  have hw : Region.wanted o (yielded ops a.tmps) = true := by simp [Region.wanted, hgd]
  rw [if_pos hw]
  exact wp_app1 s x ho B hs hown nb c y hx hy hn hB H hH h
end Go.Proofs.Ytpbgglkopfjagaa
