/- Contract of quat.Unit. -/
import Derived.Test.YtcbklolfibdffaaQuat
namespace Go.Proofs.Ytcbklolfibdffaa
open Go.RowKit
set_option maxRecDepth 100000
theorem zer4_eq (A : Nat → Int) : eqB 4 A (fun _ => 0) = zer4 A := by
  rw [Bool.eq_iff_iff, eqB_iff]
  simp only [zer4, Bool.and_eq_true, decide_eq_true_eq]
  constructor
  · intro h
    exact ⟨⟨⟨h 0 (by decide), h 1 (by decide)⟩, h 2 (by decide)⟩, h 3 (by decide)⟩
  · rintro ⟨⟨⟨a, b⟩, d⟩, e⟩ i hi
    obtain rfl | rfl | rfl | rfl : i = 0 ∨ i = 1 ∨ i = 2 ∨ i = 3 := by omega
    · exact a
    · exact b
    · exact d
    · exact e
theorem divV_ok (c : Addr) (h : Bool) (a b : Int) (w : World) (hc : w.cell? c = some (.bool h)) (hf : w.frozen? c = false) :
    Calls Try.prog 28 #[.pointer (some c), .int .i64 a, .int .i64 b, .int .i64 30] w fun e w' => e = .returned (.int .i64 (divV a b 30)) ∧ Upd c (h || divH a b 30) w w' := fdiv_any c h a b 30 w hc hf
/-- n turns of Unit's loop. -/
def turN (A : Nat → Int) : Nat → Nat → Int | 0 => A | n + 1 => uniT (turN A n)
def turH (A : Nat → Int) : Nat → Bool | 0 => false | n + 1 => turH A n || uniTH (turN A n)
/-- Of a turn the first k. -/
def turK (A : Nat → Int) (m : Int) (k : Nat) : Nat → Int := fun i => if i < k then divV (A i) m 30 else A i
structure QuR (c : Addr) (h : Bool) (g : Nat → Int) (w wr : World) : Prop where
  upd : Upd c h w wr
  blk : Blk wr w.heap.size 40 4 g
  res : Blk wr (w.heap.size + 1) 40 4 (fun _ => 0)
theorem QuR.upd' {c : Addr} {h h' : Bool} {g : Nat → Int} {w wr w' : World} (s : QuR c h g w wr) (hc : c.block < w.heap.size) (u : Upd c h' wr w') : QuR c h' g w w' :=
  ⟨s.upd.trans u, s.blk.upd u (by omega), s.res.upd u (by omega)⟩
set_option maxHeartbeats 2000000 in
theorem qunit_any (c : Addr) (h : Bool) (A : Nat → Int) (w : World) (hc : w.cell? c = some (.bool h)) (hf : w.frozen? c = false) :
    Calls Try.prog 18 #[.pointer (some c), .agg (arrv 4 A)] w fun e w' => e = .returned (.agg (arrv 4 (uniV A))) ∧ Upd c (h || uniH A) w w' := by
  have hcb := World.block_lt_of_cell? w c hc
  have S0 : QuR c h A w ((w.alloc (.cells (arrv 4 A) 40)).alloc (.cells #[.int .i64 0, .int .i64 0, .int .i64 0, .int .i64 0] 40)) :=
    ⟨Upd.then (Upd.refl hc) (by (repeat (first | with_reducible exact Below.refl _ _ | with_reducible apply Below.drew | (with_reducible refine below_drewN ?_ _) | (with_reducible refine Below.alloc ?_ (by (try simp) <;> omega) _) | (with_reducible refine Below.setCell ?_ (by (try simp) <;> omega) _)))), Blk.alloc (Blk.new w _ 4 A) _, by rw [zq4]; exact Blk.new1 w _ _ 4 _⟩
  have HC := Lib.hid hc
  have HF := Lib.hid hf
  clear hc hf
  go_enter Try.func18, Try.ntmps18
  go_upto_region 1 with fail
  generalize (w.alloc (.cells (arrv 4 A) 40)).alloc (.cells #[.int .i64 0, .int .i64 0, .int .i64 0, .int .i64 0] 40) = W0 at *
  have P0 := S0.blk
  have H0 := Lib.hid S0
  have SC := Lib.hid (qsat_any c h A W0 (S0.upd.cellc HC.out) ((S0.upd.frozen hcb).trans HF.out))
  clear S0
  go_upto_region 2 with (first | (refine wpList_load_row rfl 40 _ rfl (w.heap.size) rfl 40 _ (0, 0) _ (P0) Try.underlying40 rfl (iqt.trans (by rw [arrv_size])) ?_) | (go_at_call 26; (refine SC.out.mono ?_); rintro e w1 ⟨rfl, hu1⟩; have P1 := P0.upd hu1 (by omega)) | (refine wpList_store_row rfl 40 _ _ rfl (w.heap.size) _ rfl rfl 40 _ (P1) (iqt.trans (by rw [arrv_size])) (by rw [arrv_size, arrv_size]) (oneCell_arrv _ _) ?_))
  have S1 := H0.out.upd' hcb hu1
  have S2 : QuR c (h || orB (fun i => satH (A i)) 4) (satA A) w (w1.setRow w.heap.size (arrv 4 (satA A))) :=
    ⟨S1.upd.then' (below_row (Below.refl _ _) (Nat.le_refl _) _), S1.blk.setRow _, S1.res.setRow_other _ (by omega)⟩
  clear S1 SC P0 P1 H0 hu1
  generalize w1.setRow w.heap.size (arrv 4 (satA A)) = W1 at *
  have P2 := S2.blk
  have H2 := Lib.hid S2
  have EZ := zer4_eq (satA A)
  by_cases hz : zer4 (satA A) = true
  · rw [hz] at EZ
    have e1 : uniV A = oneQ := by unfold uniV; rw [if_pos hz]
    have e2 : (h || uniH A) = (h || orB (fun i => satH (A i)) 4) := by unfold uniH; rw [if_pos hz, Bool.or_false]
    have EZ := Lib.hid EZ
    have E1 := Lib.hid (And.intro e1 e2)
    clear hz e1 e2 S2
    refine wp_region_lit ?_
    refine wpList_val (v := ?_) rfl ?_ ?_
    rotate_left
    · refine Eq.trans (run_load_row 40 (.tmp 3) (by rfl) (w.heap.size) (by rfl) _ _ _ _ (P2) Try.underlying40 rfl (iqt.trans (by rw [arrv_size]))) ?_; with_reducible rfl
    (try simp only [Act.put, List.setIfInBounds_toArray, List.set_cons_zero, List.set_cons_succ])
    refine wpList_val (v := ?_) rfl ?_ ?_
    rotate_left
    · (go_simp; (try (first | with_reducible rfl | (constructor <;> with_reducible rfl))))
    (try simp only [Act.put, List.setIfInBounds_toArray, List.set_cons_zero, List.set_cons_succ])
    refine wpList_val (v := ?_) rfl ?_ ?_
    rotate_left
    · refine Eq.trans (run_op_eqlVec Try.underlying40 (by kernel_rfl) (.tmp 10) (.tmp 11) (by rfl) (by rfl) (g := fun _ => 0) (by rw [← zq4]; rfl) EZ.out) ?_; with_reducible rfl
    (try simp only [Act.put, List.setIfInBounds_toArray, List.set_cons_zero, List.set_cons_succ])
    refine wpList_nil ?_
    have B1 := H2.out.res
    go_wp2_with fail
    refine (qone_any _).mono ?_; rintro e w3 ⟨rfl, hb3⟩
    have R3 := B1.below hb3
    go_wp2_with (refine wpList_store_row rfl 40 _ _ rfl (w.heap.size + 1) _ rfl rfl 40 _ (R3) (iqt.trans (by rw [arrv_size])) (by rw [arrv_size, arrv_size]) (oneCell_arrv _ _) ?_)
    refine bodyPost_ret (results_cell_row Try.results18 _ _ (w.heap.size + 1) 40 (arrv 4 oneQ) (0, 0) _ rfl (setRow_heap _ _ _ _ _ _ R3) Try.underlying40 rfl (iqt.trans (by rw [arrv_size]))) rfl ⟨by rw [E1.out.1], ?_⟩
    rw [E1.out.2]
    exact (H2.out.upd.then hb3).then' (below_row (Below.refl _ _) (by omega) _)
  · have hz2 : zer4 (satA A) = false := by simpa using hz
    rw [hz2] at EZ
    have e1 : uniV A = uniT (uniT (satA A)) := by unfold uniV; rw [if_neg hz]
    have e2 : (h || uniH A) = (h || orB (fun i => satH (A i)) 4 || turH (satA A) 2) := by unfold uniH; rw [if_neg hz, ← Bool.or_assoc]; simp [turH, turN]
    have EZ := Lib.hid EZ
    have E1 := Lib.hid (And.intro e1 e2)
    clear hz e1 e2 S2 hz2
    refine wp_region_lit ?_
    refine wpList_val (v := ?_) rfl ?_ ?_
    rotate_left
    · refine Eq.trans (run_load_row 40 (.tmp 3) (by rfl) (w.heap.size) (by rfl) _ _ _ _ (P2) Try.underlying40 rfl (iqt.trans (by rw [arrv_size]))) ?_; with_reducible rfl
    (try simp only [Act.put, List.setIfInBounds_toArray, List.set_cons_zero, List.set_cons_succ])
    refine wpList_val (v := ?_) rfl ?_ ?_
    rotate_left
    · (go_simp; (try (first | with_reducible rfl | (constructor <;> with_reducible rfl))))
    (try simp only [Act.put, List.setIfInBounds_toArray, List.set_cons_zero, List.set_cons_succ])
    refine wpList_val (v := ?_) rfl ?_ ?_
    rotate_left
    · refine Eq.trans (run_op_eqlVec Try.underlying40 (by kernel_rfl) (.tmp 10) (.tmp 11) (by rfl) (by rfl) (g := fun _ => 0) (by rw [← zq4]; rfl) EZ.out) ?_; with_reducible rfl
    (try simp only [Act.put, List.setIfInBounds_toArray, List.set_cons_zero, List.set_cons_succ])
    refine wpList_nil ?_
    obtain ⟨H1, hH1⟩ : ∃ H1, (h || orB (fun i => satH (A i)) 4) = H1 := ⟨_, rfl⟩
    obtain ⟨B, hB⟩ : ∃ B, satA A = B := ⟨_, rfl⟩
    rw [hH1, hB] at H2
    have E2 : Hid (uniV A = turN B 2 ∧ (h || uniH A) = (H1 || turH B 2)) := by rw [← hB, ← hH1]; exact E1
    clear hH1 hB EZ P2
    go_wp2_with fail
    go_loopw [14] (fun i wr => ∃ n : Nat, n ≤ 2 ∧ i = .int .i64 n ∧ Hid (QuR c (H1 || turH B n) (turN B n) w wr)) (fun i _ => 2 - (intOf i).toNat)
    case atStart => exact ⟨0, by omega, rfl, by rw [show (H1 || turH B 0) = H1 from by simp [turH]]; exact H2.out⟩
    case round =>
      obtain ⟨n, hn, rfl, R⟩ := hrel
      by_cases hlt : n < 2
      · have d1 : decide ((n : Int) < 2) = true := by simp; omega
        obtain ⟨G, hG⟩ : ∃ G, turN B n = G := ⟨_, rfl⟩
        obtain ⟨H3, hH3⟩ : ∃ H3, (H1 || turH B n) = H3 := ⟨_, rfl⟩
        have hstep : turN B (n + 1) = uniT G ∧ (H1 || turH B (n + 1)) = (H3 || uniTH G) := by rw [← hG, ← hH3]; exact ⟨rfl, by simp [turH, Bool.or_assoc]⟩
        have HST := Lib.hid hstep
        rw [hG, hH3] at R
        clear hG hH3 hstep H2
        have rc := R.out.upd.cellc HC.out
        have rf := (R.out.upd.frozen hcb).trans HF.out
        have HY := Lib.hid (hypot_any c H3 G w.heap.size 0 4 4 wr rc rf (by decide) (by decide) (fun i hi => by rw [Nat.zero_add]; exact R.out.blk.cell hi))
        go_wp2_with fail
        refine HY.out.mono ?_; rintro e w2 ⟨rfl, hu2⟩
        have R2 := Lib.hid (R.out.upd' hcb hu2)
        obtain ⟨M, hM⟩ : ∃ M, hypV G 4 = M := ⟨_, rfl⟩
        obtain ⟨H4, hH4⟩ : ∃ H4, (H3 || hypH G 4) = H4 := ⟨_, rfl⟩
        rw [hM]
        rw [hH4] at R2
        have HM := Lib.hid (And.intro hM hH4)
        clear hM hH4 hu2 HY R rc rf
        go_wp2_with fail
        go_loopw [19] (fun i wr => ∃ k : Nat, k ≤ 4 ∧ i = .int .i64 k ∧ Hid (QuR c (H4 || orB (fun i => divH (G i) M 30) k) (turK G M k) w wr)) (fun i _ => 4 - (intOf i).toNat)
        case atStart =>
          refine ⟨0, by omega, rfl, ?_⟩
          rw [show (H4 || orB (fun i => divH (G i) M 30) 0) = H4 from by simp [orB]]
          exact ⟨R2.out.upd, R2.out.blk.congr fun i hi => by simp [turK], R2.out.res⟩
        case round =>
          obtain ⟨k, hk, rfl, R⟩ := hrel
          by_cases hlt4 : k < 4
          · have rc := R.out.upd.cellc HC.out
            have rf := (R.out.upd.frozen hcb).trans HF.out
            have b0 := R.out.blk.cell (i := k) (by omega)
            have hv : turK G M k k = G k := by simp [turK]
            rw [hv] at b0
            have DV := Lib.hid (divV_ok c _ (G k) M _ rc rf)
            clear hv rc rf
            go_wp2_with fail
            refine DV.out.mono ?_; rintro e w3 ⟨rfl, hu3⟩
            have R3 := Lib.hid (R.out.upd' hcb hu3)
            have b1 := R3.out.blk.cell (i := k) (by omega)
            have b2 := R3.out.blk.free k
            clear hu3 DV R
            go_wp2_with fail
            go_roundw
            case rel =>
              refine ⟨k + 1, by omega, by go_num, ⟨?_, ?_, ?_⟩⟩
              · rw [show (H4 || orB (fun i => divH (G i) M 30) (k + 1)) = (H4 || orB (fun i => divH (G i) M 30) k || divH (G k) M 30) from by simp [orB, Bool.or_assoc]]
                exact R3.out.upd.setCell (Nat.le_refl _) _
              · refine (R3.out.blk.set _ _).congr fun i hi => ?_
                simp only [Go.Proofs.Ytcbklolfibdffaa.upd, turK]
                by_cases h1 : i = k
                · subst h1; simp
                · rw [if_neg h1]; split <;> split <;> first | rfl | omega
              · exact R3.out.res.other (by simp) _
            case measure => simp [intOf]; omega
          · have hk4 : k = 4 := by omega
            subst hk4
            rw [show ((4 : Nat) : Int) = 4 from rfl]
            clear hlt4 hk
            go_wp2_with fail
            go_roundw
            case rel =>
              refine ⟨n + 1, by omega, by go_num, ?_⟩
              rw [HST.out.1, HST.out.2]
              have e3 : (H3 || uniTH G) = (H4 || orB (fun i => divH (G i) M 30) 4) := by rw [← HM.out.2, ← HM.out.1]; simp [uniTH, Bool.or_assoc]
              rw [e3]
              exact ⟨R.out.upd, R.out.blk.congr fun i hi => by simp only [turK, uniT, HM.out.1]; rw [if_pos hi], R.out.res⟩
            case measure => simp [intOf]; omega
      · have hn2 : n = 2 := by omega
        subst hn2
        rw [show ((2 : Nat) : Int) = 2 from rfl]
        have B0 := R.out.blk
        have B1 := R.out.res
        have U := Lib.hid R.out.upd
        clear R hlt hn H2
        go_wp2_with (first | (refine wpList_load_row rfl 40 _ rfl (w.heap.size) rfl 40 _ (0, 0) _ (B0) Try.underlying40 rfl (iqt.trans (by rw [arrv_size])) ?_) | (refine wpList_store_row rfl 40 _ _ rfl (w.heap.size + 1) _ rfl rfl 40 _ (B1) (iqt.trans (by rw [arrv_size])) (by rw [arrv_size, arrv_size]) (oneCell_arrv _ _) ?_))
        refine bodyPost_ret (results_cell_row Try.results18 _ _ (w.heap.size + 1) 40 (arrv 4 (turN B 2)) (0, 0) _ rfl (setRow_heap _ _ _ _ _ _ B1) Try.underlying40 rfl (iqt.trans (by rw [arrv_size]))) rfl ⟨by rw [E2.out.1], ?_⟩
        rw [E2.out.2]
        exact U.out.then' (below_row (Below.refl _ _) (by omega) _)
end Go.Proofs.Ytcbklolfibdffaa
