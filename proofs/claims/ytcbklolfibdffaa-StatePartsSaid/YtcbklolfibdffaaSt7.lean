/- Contract of state.Add. -/
import Derived.Test.YtcbklolfibdffaaSt6
import Derived.Test.YtcbklolfibdffaaSub
namespace Go.Proofs.Ytcbklolfibdffaa
open Go.RowKit
set_option maxRecDepth 100000
def sumA (S D : Nat → Int) : Nat → Int := fun i => addV (S i) (D i)
def sumK (S D : Nat → Int) (k : Nat) : Nat → Int := fun i => if i < k then addV (S i) (D i) else S i
def add1F (S D : Nat → Int) : Nat → Int := clmF (turnd (sumA S D) (uniV (sumA S D)))
def add1H (S D : Nat → Int) : Bool := orB (fun i => addH (S i) (D i)) 24 || uniH (sumA S D) || clmH (turnd (sumA S D) (uniV (sumA S D)))
/-- The first n of D's rows of 24 added. -/
def addNF (S D : Nat → Int) : Nat → Nat → Int | 0 => S | n + 1 => add1F (addNF S D n) (fun i => D (n * 24 + i))
def addNH (S D : Nat → Int) : Nat → Bool | 0 => false | n + 1 => addNH S D n || add1H (addNF S D n) (fun i => D (n * 24 + i))
theorem sadd_none (c : Addr) (h : Bool) (S : Nat → Int) (p : Option Addr) (cp : Nat) (w : World) (hc : w.cell? c = some (.bool h)) (hf : w.frozen? c = false) :
    Calls Try.prog 12 #[.pointer (some c), .agg (arrv 24 S), .slice p 0 cp] w fun e w' => e = .returned (.agg (arrv 24 (keepF S))) ∧ Upd c (h || keepH S) w w' := by
  have hcb := World.block_lt_of_cell? w c hc
  have S0 : Hid (KpR c h S w ((w.alloc (.cells (arrv 24 S) 27)).alloc (.cells #[.int .i64 0, .int .i64 0, .int .i64 0, .int .i64 0, .int .i64 0, .int .i64 0, .int .i64 0, .int .i64 0, .int .i64 0, .int .i64 0, .int .i64 0, .int .i64 0, .int .i64 0, .int .i64 0, .int .i64 0, .int .i64 0, .int .i64 0, .int .i64 0, .int .i64 0, .int .i64 0, .int .i64 0, .int .i64 0, .int .i64 0, .int .i64 0] 27))) := Lib.hid
    ⟨Upd.then (Upd.refl hc) (by (repeat (first | with_reducible exact Below.refl _ _ | with_reducible apply Below.drew | (with_reducible refine below_drewN ?_ _) | (with_reducible refine Below.alloc ?_ (by (try simp) <;> omega) _) | (with_reducible refine Below.setCell ?_ (by (try simp) <;> omega) _)))), (Blk.new w _ 24 _).alloc _, by rw [zvec24]; exact Blk.new1 w _ _ 24 _⟩
  have HC := Lib.hid hc
  have HF := Lib.hid hf
  clear hc hf
  go_enter Try.func12, Try.ntmps12
  go_upto_region 1 with fail
  generalize (w.alloc (.cells (arrv 24 S) 27)).alloc (.cells #[.int .i64 0, .int .i64 0, .int .i64 0, .int .i64 0, .int .i64 0, .int .i64 0, .int .i64 0, .int .i64 0, .int .i64 0, .int .i64 0, .int .i64 0, .int .i64 0, .int .i64 0, .int .i64 0, .int .i64 0, .int .i64 0, .int .i64 0, .int .i64 0, .int .i64 0, .int .i64 0, .int .i64 0, .int .i64 0, .int .i64 0, .int .i64 0] 27) = W0 at *
  have P0 := S0.out.blk
  have KP := Lib.hid (keep_any c h S W0 (S0.out.upd.cellc HC.out) ((S0.out.upd.frozen hcb).trans HF.out))
  go_wp2_with (first | (refine wpList_load_row rfl 27 _ rfl (w.heap.size) rfl 27 _ (0, 0) _ (P0) Try.underlying27 rfl (ist.trans (by rw [arrv_size])) ?_) | (go_at_call 8; (refine KP.out.mono ?_); rintro e w1 ⟨rfl, hu1⟩; have S1 := Lib.hid (S0.out.upd' hcb hu1); have R1 := S1.out.res; clear hu1) | (refine wpList_store_row rfl 27 _ _ rfl (w.heap.size + 1) _ rfl rfl 27 _ (R1) (ist.trans (by rw [arrv_size])) (by rw [arrv_size, arrv_size]) (oneCell_arrv _ _) ?_))
  refine bodyPost_ret (results_cell_row Try.results12 _ _ (w.heap.size + 1) 27 (arrv 24 (keepF S)) (0, 0) _ rfl (setRow_heap _ _ _ _ _ _ R1) Try.underlying27 rfl (ist.trans (by rw [arrv_size]))) rfl ⟨rfl, ?_⟩
  exact S1.out.upd.then' (below_row (Below.refl _ _) (by omega) _)
theorem KpR.upd2 {c : Addr} {h h' : Bool} {g : Nat → Int} {w wr w' : World} (s : KpR c h g w wr) (hc : c.block < w.heap.size) (u : Upd c h' wr w') : KpR c h' g w w' := s.upd' hc u
set_option maxHeartbeats 4000000 in
theorem sadd_any (c : Addr) (h : Bool) (S D : Nat → Int) (pd n cp : Nat) (w : World) (hc : w.cell? c = some (.bool h)) (hf : w.frozen? c = false) (hn : 0 < n) (hn2 : n ≤ 100)
    (hD : Blk w pd 26 (24 * n) D) :
    Calls Try.prog 12 #[.pointer (some c), .agg (arrv 24 S), .slice (some ⟨pd, 0, none⟩) n cp] w fun e w' => e = .returned (.agg (arrv 24 (addNF S D n))) ∧ Upd c (h || addNH S D n) w w' := by
  have hcb := World.block_lt_of_cell? w c hc
  have hdc := hD.flag hc
  have S0 : Hid (KpR c h S w ((w.alloc (.cells (arrv 24 S) 27)).alloc (.cells #[.int .i64 0, .int .i64 0, .int .i64 0, .int .i64 0, .int .i64 0, .int .i64 0, .int .i64 0, .int .i64 0, .int .i64 0, .int .i64 0, .int .i64 0, .int .i64 0, .int .i64 0, .int .i64 0, .int .i64 0, .int .i64 0, .int .i64 0, .int .i64 0, .int .i64 0, .int .i64 0, .int .i64 0, .int .i64 0, .int .i64 0, .int .i64 0] 27))) := Lib.hid
    ⟨Upd.then (Upd.refl hc) (by (repeat (first | with_reducible exact Below.refl _ _ | with_reducible apply Below.drew | (with_reducible refine below_drewN ?_ _) | (with_reducible refine Below.alloc ?_ (by (try simp) <;> omega) _) | (with_reducible refine Below.setCell ?_ (by (try simp) <;> omega) _)))), (Blk.new w _ 24 _).alloc _, by rw [zvec24]; exact Blk.new1 w _ _ 24 _⟩
  have HC := Lib.hid hc
  have HF := Lib.hid hf
  have HD := Lib.hid hD
  have e0 : ((n : Int) == 0) = false := by simp; omega
  have e1 : (n == 0) = false := by simp; omega
  clear hc hf hD
  go_enter Try.func12, Try.ntmps12
  go_upto_region 1 with fail
  generalize (w.alloc (.cells (arrv 24 S) 27)).alloc (.cells #[.int .i64 0, .int .i64 0, .int .i64 0, .int .i64 0, .int .i64 0, .int .i64 0, .int .i64 0, .int .i64 0, .int .i64 0, .int .i64 0, .int .i64 0, .int .i64 0, .int .i64 0, .int .i64 0, .int .i64 0, .int .i64 0, .int .i64 0, .int .i64 0, .int .i64 0, .int .i64 0, .int .i64 0, .int .i64 0, .int .i64 0, .int .i64 0] 27) = W0 at *
  go_wp2_with fail
  clear e0 e1
  go_loopw [18] (fun i wr => ∃ j : Nat, j ≤ n ∧ i = .int .i64 j ∧ Hid (KpR c (h || addNH S D j) (addNF S D j) w wr)) (fun i _ => n - (intOf i).toNat)
  case atStart => exact ⟨0, by omega, rfl, by rw [show (h || addNH S D 0) = h from by simp [addNH]]; exact S0.out⟩
  case round =>
    obtain ⟨j, hj, rfl, R⟩ := hrel
    by_cases hlt : j < n
    · have d1 : decide ((j : Int) < (n : Int)) = true := by simp; omega
      have d2 : decide (j < n) = true := by simpa using hlt
      have j0 : (0 : Int) ≤ (j : Int) := Int.natCast_nonneg _
      have j1 : (j : Int) < 100 := by omega
      have DB := HD.out.upd R.out.upd hdc
      obtain ⟨G, hG⟩ : ∃ G, addNF S D j = G := ⟨_, rfl⟩
      obtain ⟨E, hE⟩ : ∃ E : Nat → Int, (fun i => D (j * 24 + i)) = E := ⟨_, rfl⟩
      obtain ⟨H1, hH1⟩ : ∃ H1, (h || addNH S D j) = H1 := ⟨_, rfl⟩
      have HST := Lib.hid (show addNF S D (j + 1) = add1F G E ∧ (h || addNH S D (j + 1)) = (H1 || add1H G E) by rw [← hG, ← hE, ← hH1]; exact ⟨rfl, by simp [addNH, Bool.or_assoc]⟩)
      rw [hG, hH1] at R
      have HE := Lib.hid hE
      have X1 : Blk (wr.alloc (.cells #[.int .i64 0, .int .i64 0, .int .i64 0, .int .i64 0, .int .i64 0, .int .i64 0, .int .i64 0, .int .i64 0, .int .i64 0, .int .i64 0, .int .i64 0, .int .i64 0, .int .i64 0, .int .i64 0, .int .i64 0, .int .i64 0, .int .i64 0, .int .i64 0, .int .i64 0, .int .i64 0, .int .i64 0, .int .i64 0, .int .i64 0, .int .i64 0] 26)) wr.heap.size 26 24 (fun _ => 0) := by rw [zvec24]; exact Blk.new _ _ 24 _
      clear hG hE hH1 S0
      go_upto_region 6 with (first | (refine wpList_load_sub rfl 26 _ rfl pd (j * 24) 24 rfl DB (by omega) _ Try.underlying26 rfl icol ?_; rw [HE.out]) | (refine wpList_store_row rfl 26 _ _ rfl (wr.heap.size) _ rfl rfl 26 _ (X1) (icol.trans (by rw [arrv_size])) (by rw [arrv_size, arrv_size]) (oneCell_arrv _ _) ?_))
      have BX : Below wr.heap.size wr ((wr.alloc (.cells #[.int .i64 0, .int .i64 0, .int .i64 0, .int .i64 0, .int .i64 0, .int .i64 0, .int .i64 0, .int .i64 0, .int .i64 0, .int .i64 0, .int .i64 0, .int .i64 0, .int .i64 0, .int .i64 0, .int .i64 0, .int .i64 0, .int .i64 0, .int .i64 0, .int .i64 0, .int .i64 0, .int .i64 0, .int .i64 0, .int .i64 0, .int .i64 0] 26)).setRow wr.heap.size (arrv 24 E)) := below_row (by (repeat (first | with_reducible exact Below.refl _ _ | with_reducible apply Below.drew | (with_reducible refine below_drewN ?_ _) | (with_reducible refine Below.alloc ?_ (by (try simp) <;> omega) _) | (with_reducible refine Below.setCell ?_ (by (try simp) <;> omega) _)))) (Nat.le_refl _) _
      have K1 := Lib.hid (R.out.down BX)
      have X2 := Lib.hid (X1.setRow E)
      have hxb : w.heap.size + 1 < wr.heap.size := R.out.res.lt
      obtain ⟨xb, hxe⟩ : ∃ xb, wr.heap.size = xb := ⟨_, rfl⟩
      generalize (wr.alloc (.cells #[.int .i64 0, .int .i64 0, .int .i64 0, .int .i64 0, .int .i64 0, .int .i64 0, .int .i64 0, .int .i64 0, .int .i64 0, .int .i64 0, .int .i64 0, .int .i64 0, .int .i64 0, .int .i64 0, .int .i64 0, .int .i64 0, .int .i64 0, .int .i64 0, .int .i64 0, .int .i64 0, .int .i64 0, .int .i64 0, .int .i64 0, .int .i64 0] 26)).setRow wr.heap.size (arrv 24 E) = W1 at *
      rw [hxe] at X2 hxb ⊢
      clear hxe BX X1 R DB d1 d2
      go_wp2_with fail
      go_loopw [22] (fun i wr => ∃ k : Nat, k ≤ 24 ∧ i = .int .i64 k ∧ Hid (KpR c (H1 || orB (fun i => addH (G i) (E i)) k) (sumK G E k) w wr ∧ Blk wr xb 26 24 E)) (fun i _ => 24 - (intOf i).toNat)
      case atStart =>
        refine ⟨0, by omega, rfl, ?_, X2.out⟩
        rw [show (H1 || orB (fun i => addH (G i) (E i)) 0) = H1 from by simp [orB]]
        exact ⟨K1.out.upd, K1.out.blk.congr fun i hi => by simp [sumK], K1.out.res⟩
      case round =>
        obtain ⟨k, hk, rfl, R⟩ := hrel
        by_cases hlt4 : k < 24
        · have d3 : decide ((k : Int) < 24) = true := by simp; omega
          have k0 : (0 : Int) ≤ (k : Int) := Int.natCast_nonneg _
          have k1 : (k : Int) < 24 := by omega
          have b0 := R.out.1.blk.cell (i := k) (by omega)
          have hv : sumK G E k k = G k := by simp [sumK]
          rw [hv] at b0
          have x0 := R.out.2.cell (i := k) (by omega)
          obtain ⟨GV, hGV⟩ : ∃ x, G k = x := ⟨_, rfl⟩
          obtain ⟨EV, hEV⟩ : ∃ x, E k = x := ⟨_, rfl⟩
          obtain ⟨H2, hH2⟩ : ∃ x, (H1 || orB (fun i => addH (G i) (E i)) k) = x := ⟨_, rfl⟩
          rw [hGV] at b0
          rw [hEV] at x0
          have HH2 := Lib.hid (And.intro hH2 (And.intro hGV hEV))
          have R2 : Hid (KpR c H2 (sumK G E k) w wr ∧ Blk wr xb 26 24 E) := Lib.hid (by rw [← hH2]; exact R.out)
          clear hv hGV hEV hH2 R
          go_upto_region 9 with fail
          refine wp_region_M (fun w' => w'.cell? ⟨w.heap.size, k, none⟩ = some (.int .i64 GV) ∧ w'.cell? ⟨xb, k, none⟩ = some (.int .i64 EV)) 11 (by kernel_rfl) ?_ (fun hHeld => ?_)
          · exact ⟨b0, x0⟩
          refine wpAnyM_take 0 (v := ?_) rfl (by kernel_rfl) (fun _ _ _ h => h) (Or.inl ⟨by rfl, ?_⟩) (by assumption) ?_
          rotate_left
          · (intro wx hSw; (try dsimp only at hSw); go_simp; (try with_reducible rfl))
          (try simp only [Act.put, List.setIfInBounds_toArray, List.set_cons_zero, List.set_cons_succ])
          refine wpAnyM_take 1 (v := ?_) rfl (by kernel_rfl) (fun _ _ _ h => h) (Or.inl ⟨by rfl, ?_⟩) (by assumption) ?_
          rotate_left
          · (intro wx hSw; (try dsimp only at hSw); go_simp; (try with_reducible rfl))
          (try simp only [Act.put, List.setIfInBounds_toArray, List.set_cons_zero, List.set_cons_succ])
          refine wpAnyM_take 2 (v := ?_) rfl (by kernel_rfl) (fun _ _ _ h => h) (Or.inl ⟨by rfl, ?_⟩) (by assumption) ?_
          rotate_left
          · (intro wx hSw; (try dsimp only at hSw); go_simp; (try with_reducible rfl))
          (try simp only [Act.put, List.setIfInBounds_toArray, List.set_cons_zero, List.set_cons_succ])
          refine wpAnyM_take 3 (v := ?_) rfl (by kernel_rfl) (fun _ _ _ h => h) (Or.inl ⟨by rfl, ?_⟩) (by assumption) ?_
          rotate_left
          · (intro wx hSw; (try dsimp only at hSw); go_simp; (try with_reducible rfl))
          (try simp only [Act.put, List.setIfInBounds_toArray, List.set_cons_zero, List.set_cons_succ])
          refine wpAnyM_take 4 (v := ?_) rfl (by kernel_rfl) (fun _ _ _ h => h) (Or.inl ⟨by rfl, ?_⟩) (by assumption) ?_
          rotate_left
          · (intro wx hSw; (try dsimp only at hSw); go_simp; (try with_reducible rfl))
          (try simp only [Act.put, List.setIfInBounds_toArray, List.set_cons_zero, List.set_cons_succ])
          refine wpAnyM_take 5 (v := ?_) rfl (by kernel_rfl) (fun _ _ _ h => h) (Or.inl ⟨by rfl, ?_⟩) (by assumption) ?_
          rotate_left
          · (intro wx hSw; (try dsimp only at hSw); go_simp; (try with_reducible rfl))
          (try simp only [Act.put, List.setIfInBounds_toArray, List.set_cons_zero, List.set_cons_succ])
          refine wpAnyM_take 6 (v := ?_) rfl (by kernel_rfl) (fun _ _ _ h => h) (Or.inl ⟨by rfl, ?_⟩) (by assumption) ?_
          rotate_left
          · (intro wx hSw; (try dsimp only at hSw); go_simp; (try with_reducible rfl))
          (try simp only [Act.put, List.setIfInBounds_toArray, List.set_cons_zero, List.set_cons_succ])
          refine wpAnyM_take 7 (v := ?_) rfl (by kernel_rfl) (fun _ _ _ h => h) (Or.inl ⟨by rfl, ?_⟩) (by assumption) ?_
          rotate_left
          · (intro wx hSw; (try dsimp only at hSw); go_simp; (try with_reducible rfl))
          (try simp only [Act.put, List.setIfInBounds_toArray, List.set_cons_zero, List.set_cons_succ])
          refine wpAnyM_oneS 8 rfl (by kernel_rfl) (fun K hK => ?_)
          go_simp
          clear hHeld
          refine hK.out _ _ ?_ (fun hHeld => ?_)
          · exact ⟨by simp [World.cell?_alloc_some, b0], by simp [World.cell?_alloc_some, x0]⟩
          clear hK K
          (try simp only [Act.put, List.setIfInBounds_toArray, List.set_cons_zero, List.set_cons_succ])
          refine wpAnyM_oneS 9 rfl (by kernel_rfl) (fun K hK => ?_)
          go_simp
          have hw3 := (Below.refl wr.heap.size wr).drew.alloc (by simp) (.cells #[.int .i64 GV, .int .i64 EV] 2); have R3 := Lib.hid (And.intro (R2.out.1.down hw3) (R2.out.2.below hw3)); (refine (fadd_any c _ (two GV EV) wr.heap.size 0 2 2 _ (R3.out.1.upd.cellc HC.out) ((R3.out.1.upd.frozen hcb).trans HF.out) (by decide) (by intro i hi; obtain rfl | rfl : i = 0 ∨ i = 1 := (by omega); simp [go_sem, two]; simp [go_sem, two])).mono ?_); (rw [(add2 GV EV true).1, (add2 GV EV _).2]); rintro e w4 ⟨rfl, hu4⟩; have S4 := Lib.hid (R3.out.1.upd' hcb hu4); have X4 := Lib.hid (R3.out.2.upd hu4 (by omega)); have f4 := S4.out.blk.free k; have kp := And.intro ((S4.out.blk.cell (i := k) (by omega)).trans (by rw [show sumK G E k k = GV from by rw [← HH2.out.2.1]; simp [sumK]])) ((X4.out.cell (i := k) (by omega)).trans (by rw [HH2.out.2.2])); clear hu4 R3 hw3
          (try dsimp only)
          (try simp only [Act.put, List.setIfInBounds_toArray, List.set_cons_zero, List.set_cons_succ])
          clear hHeld
          refine hK.out _ _ ?_ (fun hHeld => ?_)
          · exact kp
          clear hK K
          (try simp only [Act.put, List.setIfInBounds_toArray, List.set_cons_zero, List.set_cons_succ])
          refine wpAnyM_take 10 (v := ?_) rfl (by kernel_rfl) (fun _ _ _ h => h) (Or.inl ⟨by rfl, ?_⟩) (by assumption) ?_
          rotate_left
          · (intro wx hSw; (try dsimp only at hSw); go_simp; (try with_reducible rfl))
          (try simp only [Act.put, List.setIfInBounds_toArray, List.set_cons_zero, List.set_cons_succ])
          refine wpAnyM_one 11 rfl (by kernel_rfl) (fun K hK => ?_)
          go_simp
          refine hK.out _ _ (.inl (by kernel_rfl)) (fun _ => ?_)
          clear hK K
          (try simp only [Act.put, List.setIfInBounds_toArray, List.set_cons_zero, List.set_cons_succ])
          refine wpAnyM_done (by kernel_rfl) ?_ _
          clear b0 x0 R2
          go_wp2_with fail
          go_roundw
          case rel =>
            refine ⟨k + 1, by omega, by go_num, ⟨?_, ?_, S4.out.res.other (by simp) _⟩, X4.out.other (by simp; omega) _⟩
            · rw [show (H1 || orB (fun i => addH (G i) (E i)) (k + 1)) = (H2 || addH GV EV) from by rw [← HH2.out.1, ← HH2.out.2.1, ← HH2.out.2.2]; simp [orB, Bool.or_assoc]]
              exact S4.out.upd.setCell (Nat.le_refl _) _
            · refine (S4.out.blk.set _ _).congr fun i hi => ?_
              simp only [Go.Proofs.Ytcbklolfibdffaa.upd, sumK]
              by_cases h1 : i = k
              · subst h1; rw [if_pos rfl, if_pos (by omega), HH2.out.2.1, HH2.out.2.2]
              · rw [if_neg h1]; split <;> split <;> first | rfl | omega
          case measure => simp [intOf]; omega
        · have hk24 : k = 24 := by omega
          subst hk24
          rw [show ((24 : Nat) : Int) = 24 from rfl]
          obtain ⟨T, hT⟩ : ∃ T, sumA G E = T := ⟨_, rfl⟩
          obtain ⟨Y, hY⟩ : ∃ Y, turnd T (uniV T) = Y := ⟨_, rfl⟩
          obtain ⟨H2, hH2⟩ : ∃ x, (H1 || orB (fun i => addH (G i) (E i)) 24) = x := ⟨_, rfl⟩
          have S2 : Hid (KpR c H2 T w wr) := by
            rw [← hH2, ← hT]
            exact Lib.hid ⟨R.out.1.upd, R.out.1.blk.congr fun i hi => by simp only [sumK, sumA]; rw [if_pos hi], R.out.1.res⟩
          have HE2 := Lib.hid (show add1F G E = clmF Y ∧ (H1 || add1H G E) = (H2 || uniH T || clmH Y) by unfold add1F add1H; rw [hT, hY, ← hH2]; exact ⟨rfl, by simp [Bool.or_assoc]⟩)
          have HY := Lib.hid hY
          have P2 := S2.out.blk
          clear R hk hlt4 hT hY hH2 K1 X2
          go_upto_region 11 with fail
          refine wp_region_M (fun w' => Blk w' w.heap.size 27 24 T) 8 (by kernel_rfl) ?_ (fun hHeld => ?_)
          · exact P2.drew
          refine wpAnyM_take 0 (v := ?_) rfl (by kernel_rfl) (fun _ _ _ h => h) (Or.inl ⟨by rfl, ?_⟩) (by assumption) ?_
          rotate_left
          · (intro wx hSw; (try dsimp only at hSw); go_simp; (try with_reducible rfl))
          (try simp only [Act.put, List.setIfInBounds_toArray, List.set_cons_zero, List.set_cons_succ])
          refine wpAnyM_take 1 (v := ?_) rfl (by kernel_rfl) (fun _ _ _ h => h) (Or.inl ⟨by rfl, ?_⟩) (by assumption) ?_
          rotate_left
          · (intro wx hSw; refine Eq.trans (run_load_row 27 (.tmp 4) (by rfl) w.heap.size (by rfl) _ _ _ _ hSw Try.underlying27 rfl (ist.trans (by rw [arrv_size]))) ?_; with_reducible rfl)
          (try simp only [Act.put, List.setIfInBounds_toArray, List.set_cons_zero, List.set_cons_succ])
          refine wpAnyM_take 2 (v := ?_) rfl (by kernel_rfl) (fun _ _ _ h => h) (Or.inl ⟨by rfl, ?_⟩) (by assumption) ?_
          rotate_left
          · (intro wx hSw; (try dsimp only at hSw); go_simp; (try with_reducible rfl))
          (try simp only [Act.put, List.setIfInBounds_toArray, List.set_cons_zero, List.set_cons_succ])
          refine wpAnyM_take 3 (v := ?_) rfl (by kernel_rfl) (fun _ _ _ h => h) (Or.inl ⟨by rfl, ?_⟩) (by assumption) ?_
          rotate_left
          · (intro wx hSw; refine Eq.trans (run_load_row 27 (.tmp 4) (by rfl) w.heap.size (by rfl) _ _ _ _ hSw Try.underlying27 rfl (ist.trans (by rw [arrv_size]))) ?_; with_reducible rfl)
          (try simp only [Act.put, List.setIfInBounds_toArray, List.set_cons_zero, List.set_cons_succ])
          refine wpAnyM_oneS 4 rfl (by kernel_rfl) (fun K hK => ?_)
          go_simp
          (refine (att_any T _).mono ?_); rintro e w3 ⟨rfl, hb3⟩; have S3 := Lib.hid (S2.out.drew.down hb3); clear hb3
          (try dsimp only)
          (try simp only [Act.put, List.setIfInBounds_toArray, List.set_cons_zero, List.set_cons_succ])
          clear hHeld
          refine hK.out _ _ ?_ (fun hHeld => ?_)
          · exact S3.out.blk
          clear hK K
          (try simp only [Act.put, List.setIfInBounds_toArray, List.set_cons_zero, List.set_cons_succ])
          refine wpAnyM_oneS 5 rfl (by kernel_rfl) (fun K hK => ?_)
          go_simp
          (refine (qunit_any c H2 T w3 (S3.out.upd.cellc HC.out) ((S3.out.upd.frozen hcb).trans HF.out)).mono ?_); rintro e w4 ⟨rfl, hu4⟩; have S4 := Lib.hid (S3.out.upd' hcb hu4); clear hu4
          (try dsimp only)
          (try simp only [Act.put, List.setIfInBounds_toArray, List.set_cons_zero, List.set_cons_succ])
          clear hHeld
          refine hK.out _ _ ?_ (fun hHeld => ?_)
          · exact S4.out.blk
          clear hK K
          (try simp only [Act.put, List.setIfInBounds_toArray, List.set_cons_zero, List.set_cons_succ])
          refine wpAnyM_oneS 6 rfl (by kernel_rfl) (fun K hK => ?_)
          go_simp
          (refine (turned_any T (uniV T) _).mono ?_); rintro e w5 ⟨rfl, hb5⟩; have S5 := Lib.hid (S4.out.down hb5); clear hb5; (rw [HY.out])
          (try dsimp only)
          (try simp only [Act.put, List.setIfInBounds_toArray, List.set_cons_zero, List.set_cons_succ])
          clear hHeld
          refine hK.out _ _ ?_ (fun hHeld => ?_)
          · exact S5.out.blk
          clear hK K
          (try simp only [Act.put, List.setIfInBounds_toArray, List.set_cons_zero, List.set_cons_succ])
          refine wpAnyM_oneS 7 rfl (by kernel_rfl) (fun K hK => ?_)
          go_simp
          (refine (clamp24_any c _ Y w5 (S5.out.upd.cellc HC.out) ((S5.out.upd.frozen hcb).trans HF.out)).mono ?_); rintro e w6 ⟨rfl, hu6⟩; have S6 := Lib.hid (S5.out.upd' hcb hu6); have P6 := S6.out.blk; clear hu6
          (try dsimp only)
          (try simp only [Act.put, List.setIfInBounds_toArray, List.set_cons_zero, List.set_cons_succ])
          clear hHeld
          refine hK.out _ _ ?_ (fun hHeld => ?_)
          · exact S6.out.blk
          clear hK K
          (try simp only [Act.put, List.setIfInBounds_toArray, List.set_cons_zero, List.set_cons_succ])
          refine wpAnyM_one 8 rfl (by kernel_rfl) (fun K hK => ?_)
          go_simp; rw [if_pos (arrv_size _ _), run_storeCells_row _ P6]; go_simp
          refine hK.out _ _ (.inl (by kernel_rfl)) (fun _ => ?_)
          clear hK K
          (try simp only [Act.put, List.setIfInBounds_toArray, List.set_cons_zero, List.set_cons_succ])
          refine wpAnyM_done (by kernel_rfl) ?_ _
          have S7 := Lib.hid (S6.out.row (clmF Y))
          generalize w6.setRow w.heap.size (arrv 24 (clmF Y)) = W7 at *
          clear P6 S6 S5 S4 S3 S2 P2
          go_wp2_with fail
          go_roundw
          case rel =>
            refine ⟨j + 1, by omega, by go_num, ?_⟩
            rw [HST.out.1, HST.out.2, HE2.out.1, HE2.out.2]
            exact S7.out
          case measure => simp [intOf]; omega
    · have hjn : j = n := by omega
      subst hjn
      have d1 : decide (j < j) = false := by simp
      have V := R.out.blk
      have X := R.out.res
      have U := Lib.hid R.out.upd
      clear R hlt hj S0
      go_wp2_with (first | (refine wpList_load_row rfl 27 _ rfl (w.heap.size) rfl 27 _ (0, 0) _ (V) Try.underlying27 rfl (ist.trans (by rw [arrv_size])) ?_) | (refine wpList_store_row rfl 27 _ _ rfl (w.heap.size + 1) _ rfl rfl 27 _ (X) (ist.trans (by rw [arrv_size])) (by rw [arrv_size, arrv_size]) (oneCell_arrv _ _) ?_))
      refine bodyPost_ret (results_cell_row Try.results12 _ _ (w.heap.size + 1) 27 (arrv 24 (addNF S D j)) (0, 0) _ rfl (setRow_heap _ _ _ _ _ _ X) Try.underlying27 rfl (ist.trans (by rw [arrv_size]))) rfl ⟨rfl, ?_⟩
      exact U.out.then' (below_row (Below.refl _ _) (by omega) _)
end Go.Proofs.Ytcbklolfibdffaa
