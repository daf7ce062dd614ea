/- Contracts of the program's functions and plain laws, part 21: they hold for all arguments. -/
import Derived.Test.YtgfklheepkgedaaGreatQ20
/- The reference's Step: the walk. -/
namespace Go.Proofs.YtgfklheepkgedaaGreat
open Go.RowKit
set_option maxRecDepth 100000
set_option maxHeartbeats 16000000 in
theorem rstep_any (c : Addr) (h : Bool) (f F q : Nat → Int) (fb TF : Nat) (w : World) (hc : w.cell? c = some (.bool h)) (hf : w.frozen? c = false) (hFB : Blk w fb TF 576 F) :
  Calls Tryz.prog 70 #[.pointer (some c), .agg (arrv 300 f), .pointer (some ⟨fb, 0, none⟩), .agg (arrv 24 q)] w fun e w' =>
   ∃ H, e = .returned (.agg (arrv 300 (stepF f F q))) ∧ Upd c (h || H) w w' ∧ H = (condH f || orB (fun k => qH (q k)) 24 || orB (rrH (condF f) F (fS F 24 0)) 24 || HN (stepW f F) (stepE f q) 24) := by
 have hcb := World.block_lt_of_cell? w c hc
 have hfb := hFB.lt
 have hfc : fb ≠ c.block := hFB.flag hc
 have S0 : RsA c h f q w (((w.alloc (.cells (arrv 300 f) 26)).alloc (.cells (arrv 24 q) 22)).alloc (.cells Tryz.zeroCells26 26)) := by
  rw [zcov]
  exact ⟨Upd.then (Upd.refl hc) (by (repeat (first | with_reducible exact Below.refl _ _ | with_reducible apply Below.drew | (with_reducible refine below_drewN ?_ _) | (with_reducible refine Below.alloc ?_ (by (try simp) <;> omega) _) | (with_reducible refine Below.setCell ?_ (by (try simp) <;> omega) _)))), ((Blk.new w _ _ _).alloc _).alloc _, (Blk.new1 w _ _ _ _).alloc _, blk_new2 w _ _ _ _ _⟩
 have HC := Lib.hid hc
 have HF := Lib.hid hf
 have HFB := Lib.hid hFB
 go_enter Tryz.func70, Tryz.ntmps70
 go_upto_region 1 with fail
 generalize ((w.alloc (.cells (arrv 300 f) 26)).alloc (.cells (arrv 24 q) 22)).alloc (.cells Tryz.zeroCells26 26) = W0 at *
 have c0 := S0.upd.cellc hc
 have f0 := (S0.upd.frozen hcb).trans hf
 have P0 := S0.pB
 have HS0 := Lib.hid S0
 clear S0 hc hf hFB
 go_upto_region 2 with (first | (refine wpList_load_row rfl 26 _ rfl w.heap.size rfl 26 _ (0, 0) _ P0 Tryz.underlying26 rfl (icov.trans (by rw [arrv_size])) ?_) | (go_at_call 99; (refine (rcond_any c h f _ c0 f0).mono ?_); rintro e w1 ⟨rfl, hu1⟩; have P1 := P0.upd hu1 (by omega)) | (refine wpList_store_row rfl 26 _ _ rfl w.heap.size _ rfl rfl 26 _ P1 (icov.trans (by rw [arrv_size])) (by rw [arrv_size, arrv_size]) (oneCell_arrv _ _) ?_))
 have S1 : Hid (RsA c (h || condH f) (condF f) q w (w1.setRow w.heap.size (arrv 300 (condF f)))) := by
  have S := HS0.out.upd' hcb hu1
  exact Lib.hid ⟨S.upd.then' (below_row (Below.refl _ _) (Nat.le_refl _) _), P1.setRow _, S.qB.setRow_other _ (by omega), S.rB.setRow_other _ (by omega)⟩
 generalize w1.setRow w.heap.size (arrv 300 (condF f)) = W1 at *
 clear P0 P1 hu1 HS0 c0 f0
 obtain ⟨P, hP⟩ : ∃ P, condF f = P := ⟨_, rfl⟩
 obtain ⟨H1, hH1⟩ : ∃ H1, (h || condH f) = H1 := ⟨_, rfl⟩
 rw [hP, hH1] at S1
 have EP := Lib.hid hP
 have EH1 := Lib.hid hH1
 clear hP hH1
 go_wp2_with fail
 go_loopw [9] (fun i wr => ∃ k : Nat, k ≤ 24 ∧ i = .int .i64 k ∧ Hid (RsA c (H1 || orB (fun k => qH (q k)) k) P (qS q k) w wr)) (fun i _ => 24 - (intOf i).toNat)
 case atStart =>
  refine ⟨0, by omega, rfl, ?_⟩
  rw [show (H1 || orB (fun k => qH (q k)) 0) = H1 from by simp [orB]]
  exact Lib.hid ⟨S1.out.upd, S1.out.pB, S1.out.qB.congr fun i hi => by simp [qS], S1.out.rB⟩
 case round =>
  obtain ⟨k, hk, rfl, R⟩ := hrel
  clear S1
  by_cases hlt : k < 24
  ·have d1 : decide ((k : Int) < 24) = true := by simp; omega
   have k0 : (0 : Int) ≤ (k : Int) := Int.natCast_nonneg _
   have k1 : (k : Int) < 24 := by omega
   have rc := R.out.upd.cellc HC.out
   have rf := (R.out.upd.frozen hcb).trans HF.out
   have b0 := R.out.qB.cell (i := k) (by omega)
   have b1 := R.out.qB.free k
   have n0 := ne_of_cells rc b0
   have hv : qS q k k = q k := by simp [qS]
   rw [hv] at b0
   clear hv
   have CC := Lib.hid (rclamp_any c _ (q k) 0 72057594037927936 wr.drew rc rf)
   go_upto_region 5 with fail
   refine wp_region_M (fun w' => w'.cell? ⟨w.heap.size + 1, k, none⟩ = some (.int .i64 (q k))) 9 (by kernel_rfl) ?_ (fun hHeld => ?_)
   ·exact b0
   refine tk 0 ?_
   (try simp only [Act.put, nA, nB, nC])
   refine tk 1 ?_
   (try simp only [Act.put, nA, nB, nC])
   refine tk 2 ?_
   (try simp only [Act.put, nA, nB, nC])
   refine tk 3 ?_
   (try simp only [Act.put, nA, nB, nC])
   refine tk 4 ?_
   (try simp only [Act.put, nA, nB, nC])
   refine tk 5 ?_
   (try simp only [Act.put, nA, nB, nC])
   refine tk 6 ?_
   (try simp only [Act.put, nA, nB, nC])
   refine wpAnyM_oneS 7 rfl (by kernel_rfl) (fun K hK => ?_)
   go_simp
   (refine CC.out.mono ?_); rintro e w' ⟨rfl, rfl⟩
   (try dsimp only)
   (try simp only [Act.put, nA, nB, nC])
   clear hHeld
   refine hK.out _ _ ?_ (fun hHeld => ?_)
   ·simp [go_sem, *]
   clear hK K
   (try simp only [Act.put, nA, nB, nC])
   refine tk 8 ?_
   (try simp only [Act.put, nA, nB, nC])
   refine wpAnyM_one 9 rfl (by kernel_rfl) (fun K hK => ?_)
   go_simp
   refine hK.out _ _ (.inl (by kernel_rfl)) (fun _ => ?_)
   clear hK K
   (try simp only [Act.put, nA, nB, nC])
   refine wpAnyM_done (by kernel_rfl) ?_ _
   have A1 : Upd c (H1 || orB (fun k => qH (q k)) k || qH (q k)) wr (wr.drew.setCell c (.bool (H1 || orB (fun k => qH (q k)) k || qH (q k)))) := Upd.after (Below.drew (Below.refl _ _)) (Upd.set c _ wr.drew)
   have S2 := R.out.upd' hcb A1
   go_wp2_with fail
   go_roundw
   case rel =>
    refine ⟨k + 1, by omega, by go_num, ?_⟩
    rw [show (H1 || orB (fun k => qH (q k)) (k + 1)) = (H1 || orB (fun k => qH (q k)) k || qH (q k)) from by simp [orB, Bool.or_assoc]]
    refine Lib.hid ⟨S2.upd.setCell (by simp) _, S2.pB.other (by simp) _, (S2.qB.set k (qV (q k))).congr fun i hi => ?_, S2.rB.other (by simp) _⟩
    simp only [Go.Proofs.YtgfklheepkgedaaGreat.upd, qS]
    by_cases h1 : i = k
    ·subst h1; rw [if_pos rfl, if_pos (by omega)]
    ·rw [if_neg h1]; split <;> split <;> first | rfl | omega
   case measure => simp [intOf]; omega
  ·have hk24 : k = 24 := by omega
   subst hk24
   rw [show ((24 : Nat) : Int) = 24 from rfl]
   obtain ⟨H2, hH2⟩ : ∃ H2, (H1 || orB (fun k => qH (q k)) 24) = H2 := ⟨_, rfl⟩
   rw [hH2] at R
   have EH2 := Lib.hid hH2
   clear hH2 hk hlt
   go_upto_region 7 with fail
   have S2 : Hid (RsA c H2 P (qS q 24) w (wr.alloc (.cells Tryz.zeroCells95 95))) := Lib.hid (R.out.below ((Below.refl _ _).alloc (Nat.le_refl _) _))
   have C2 : Hid (Blk (wr.alloc (.cells Tryz.zeroCells95 95)) wr.heap.size 95 576 (fun _ => 0)) := Lib.hid (by rw [zmat2]; exact Blk.new wr _ _ _)
   have hcbk : w.heap.size + 2 < wr.heap.size := R.out.far
   generalize wr.alloc (.cells Tryz.zeroCells95 95) = W2 at *
   generalize wr.heap.size = cb at *
   clear R
   go_wp2_with fail
   go_loopw [11] (fun i wr => ∃ k : Nat, k ≤ 24 ∧ i = .int .i64 k ∧ Hid (RsA c H2 P (qS q 24) w wr ∧ Blk wr cb 95 576 (clS P k 0))) (fun i _ => 24 - (intOf i).toNat)
   case atStart => exact ⟨0, by omega, rfl, Lib.hid ⟨S2.out, C2.out.congr fun i hi => by simp [clS]⟩⟩
   case round =>
    obtain ⟨k, hk, rfl, R⟩ := hrel
    clear S2 C2
    by_cases hlt : k < 24
    ·have d1 : decide ((k : Int) < 24) = true := by simp; omega
     have k0 : (0 : Int) ≤ (k : Int) := Int.natCast_nonneg _
     have k1 : (k : Int) < 24 := by omega
     go_wp2_with fail
     go_loopw [12] (fun i wr => ∃ m : Nat, m ≤ k + 1 ∧ i = .int .i64 m ∧ Hid (RsA c H2 P (qS q 24) w wr ∧ Blk wr cb 95 576 (clS P k m))) (fun i _ => k + 1 - (intOf i).toNat)
     case atStart => exact ⟨0, by omega, rfl, R⟩
     case round =>
      obtain ⟨m, hm, rfl, Q⟩ := hrel
      clear R
      by_cases hmk : m < k + 1
      ·have d2 : decide (m ≤ k) = true := by simp; omega
       have m0 : (0 : Int) ≤ (m : Int) := Int.natCast_nonneg _
       have m1 : (m : Int) < 24 := by omega
       have UC := Lib.hid (rU_any P w.heap.size m k wr.drew (by omega) (by omega) Q.out.1.pB.drew)
       have b1 := Q.out.2.free (k * 24 + m)
       have l1 := Q.out.2.lt
       have b0 := Q.out.2.cell (i := k * 24 + m) (by omega)
       go_upto_region 13 with fail
       refine wp_region_M (fun w' => w'.cell? ⟨cb, k * 24 + m, none⟩ = some (.int .i64 (clS P k m (k * 24 + m)))) 7 (by kernel_rfl) ?_ (fun hHeld => ?_)
       ·exact b0
       refine tk 0 ?_
       (try simp only [Act.put, nA, nB, nC])
       refine tk 1 ?_
       (try simp only [Act.put, nA, nB, nC])
       refine tk 2 ?_
       (try simp only [Act.put, nA, nB, nC])
       refine tk 3 ?_
       (try simp only [Act.put, nA, nB, nC])
       refine wpAnyM_takeW 5 (v := ?_) rfl (by kernel_rfl) (fun _ _ _ h => h) (Or.inl ⟨by rfl, ?_⟩) (.inr (by assumption)) ?_
       rotate_left
       ·(intro wx hSw; (try dsimp only at hSw); go_simp; (try with_reducible rfl))
       (try simp only [Act.put, nA, nB, nC])
       refine wpAnyM_oneS 4 rfl (by kernel_rfl) (fun K hK => ?_)
       go_simp
       (refine UC.out.mono ?_); rintro e w3 ⟨rfl, hb3⟩; have g0 := (hb3.frozen (p := ⟨cb, k * 24 + m, none⟩) l1).trans b1; have g1 := (hb3.cell (p := ⟨cb, k * 24 + m, none⟩) l1).trans b0
       (try dsimp only)
       (try simp only [Act.put, nA, nB, nC])
       clear hHeld
       refine hK.out _ _ ?_ (fun hHeld => ?_)
       ·exact (hb3.cell l1).trans b0
       clear hK K
       (try simp only [Act.put, nA, nB, nC])
       refine tk 6 ?_
       (try simp only [Act.put, nA, nB, nC])
       refine wpAnyM_one 7 rfl (by kernel_rfl) (fun K hK => ?_)
       go_simp
       refine hK.out _ _ (.inl (by kernel_rfl)) (fun _ => ?_)
       clear hK K
       (try simp only [Act.put, nA, nB, nC])
       refine wpAnyM_done (by kernel_rfl) ?_ _
       have B3 : Below wr.heap.size wr w3 := (Below.drew (Below.refl _ _)).trans hb3
       have S3 := Q.out.1.below B3
       have C3 := Q.out.2.below B3
       go_wp2_with fail
       go_roundw
       case rel =>
        refine ⟨m + 1, by omega, by go_num, Lib.hid ⟨S3.other (by omega) _, (C3.set (k * 24 + m) (uV P m k)).congr fun i hi => ?_⟩⟩
        simp only [Go.Proofs.YtgfklheepkgedaaGreat.upd, clS]
        by_cases h1 : i = k * 24 + m
        ·subst h1; rw [if_pos rfl, if_pos (by omega), show (k * 24 + m) / 24 = k by omega, show (k * 24 + m) % 24 = m by omega]; unfold colF; rw [if_pos (by omega)]
        ·rw [if_neg h1]; split <;> split <;> first | rfl | omega
       case measure => simp [intOf]; omega
      ·have hmk' : m = k + 1 := by omega
       subst hmk'
       have d2 : decide (k + 1 ≤ k) = false := by simp
       have Q2 : Hid (RsA c H2 P (qS q 24) w wr ∧ Blk wr cb 95 576 (clS P (k + 1) 0)) := Lib.hid ⟨Q.out.1, Q.out.2.congr fun i hi => by
        simp only [clS]
        by_cases h1 : i / 24 < k
        ·rw [if_pos (by omega), if_pos (by omega)]
        ·by_cases h2 : i / 24 = k
         ·rw [if_pos (show i / 24 < k + 1 ∨ _ by omega)]
          by_cases h3 : i % 24 < k + 1
          ·rw [if_pos (by omega)]
          ·rw [if_neg (by omega)]; unfold colF; rw [if_neg (by omega)]
         ·rw [if_neg (by omega), if_neg (by omega)]⟩
       clear Q
       go_wp2_with fail
       go_roundw
       case rel => exact ⟨k + 1, by omega, by go_num, Q2⟩
       case measure => simp [intOf]; omega
    ·have hk24 : k = 24 := by omega
     subst hk24
     rw [show ((24 : Nat) : Int) = 24 from rfl]
     clear hk hlt
     have hszc := R.out.2.lt
     go_upto_region 16 with fail
     obtain ⟨G, hG⟩ : ∃ G, fS F 24 0 = G := ⟨_, rfl⟩
     have EG := Lib.hid hG
     have hGv : ∀ x, x < 576 → G x = satV (F x) := fun x hx => by rw [← hG]; simp only [fS]; rw [if_pos (by omega)]
     have HGV := Lib.hid hGv
     clear hG hGv
     have S3 : Hid (RsB c H2 P (qS q 24) cb wr.heap.size (wr.heap.size + 1) (clS P 24 0) (wS P G 0 0) (eS P q 0) w ((wr.alloc (.cells Tryz.zeroCells146 146)).alloc (.cells #[.int .i64 0, .int .i64 0, .int .i64 0, .int .i64 0, .int .i64 0, .int .i64 0, .int .i64 0, .int .i64 0, .int .i64 0, .int .i64 0, .int .i64 0, .int .i64 0, .int .i64 0, .int .i64 0, .int .i64 0, .int .i64 0, .int .i64 0, .int .i64 0, .int .i64 0, .int .i64 0, .int .i64 0, .int .i64 0, .int .i64 0, .int .i64 0, .int .i64 0, .int .i64 0, .int .i64 0, .int .i64 0, .int .i64 0, .int .i64 0, .int .i64 0, .int .i64 0, .int .i64 0, .int .i64 0, .int .i64 0, .int .i64 0, .int .i64 0, .int .i64 0, .int .i64 0, .int .i64 0, .int .i64 0, .int .i64 0, .int .i64 0, .int .i64 0, .int .i64 0, .int .i64 0, .int .i64 0, .int .i64 0] 130))) := by
      rw [zrows, zvec]
      refine Lib.hid ⟨R.out.1.below (by (repeat (first | with_reducible exact Below.refl _ _ | with_reducible apply Below.drew | (with_reducible refine below_drewN ?_ _) | (with_reducible refine Below.alloc ?_ (by (try simp) <;> omega) _) | (with_reducible refine Below.setCell ?_ (by (try simp) <;> omega) _)))), (R.out.2.alloc _).alloc _, ?_, ?_, by omega⟩
      ·exact ((Blk.new wr _ 1152 (fun _ => 0)).alloc _).congr fun x hx => by simp only [wS]; rw [if_neg (by omega), if_neg (by omega)]
      ·exact (Blk.new1 wr _ _ 48 (fun _ => 0)).congr fun x hx => by simp only [eS]; rw [if_neg (by omega), if_neg (by omega)]
     generalize (wr.alloc (.cells Tryz.zeroCells146 146)).alloc (.cells #[.int .i64 0, .int .i64 0, .int .i64 0, .int .i64 0, .int .i64 0, .int .i64 0, .int .i64 0, .int .i64 0, .int .i64 0, .int .i64 0, .int .i64 0, .int .i64 0, .int .i64 0, .int .i64 0, .int .i64 0, .int .i64 0, .int .i64 0, .int .i64 0, .int .i64 0, .int .i64 0, .int .i64 0, .int .i64 0, .int .i64 0, .int .i64 0, .int .i64 0, .int .i64 0, .int .i64 0, .int .i64 0, .int .i64 0, .int .i64 0, .int .i64 0, .int .i64 0, .int .i64 0, .int .i64 0, .int .i64 0, .int .i64 0, .int .i64 0, .int .i64 0, .int .i64 0, .int .i64 0, .int .i64 0, .int .i64 0, .int .i64 0, .int .i64 0, .int .i64 0, .int .i64 0, .int .i64 0, .int .i64 0] 130) = W3 at *
     obtain ⟨wb, hwb⟩ : ∃ wb, wr.heap.size = wb := ⟨_, rfl⟩
     obtain ⟨eb, heb⟩ : ∃ eb, wr.heap.size + 1 = eb := ⟨_, rfl⟩
     rw [heb, hwb] at S3
     rw [heb, hwb]
     clear R hszc heb hwb
     go_wp2_with fail
     go_loopw [15] (fun i wr => ∃ k : Nat, k ≤ 24 ∧ i = .int .i64 k ∧ Hid (RsB c (H2 || orB (rrH P F G) k) P (qS q 24) cb wb eb (clS P 24 0) (wS P G k 0) (eS P q k) w wr)) (fun i _ => 24 - (intOf i).toNat)
     case atStart =>
      refine ⟨0, by omega, rfl, ?_⟩
      rw [show (H2 || orB (rrH P F G) 0) = H2 from by simp [orB]]
      exact S3
     case round =>
      obtain ⟨i, hi, rfl, R⟩ := hrel
      clear S3
      by_cases hlt : i < 24
      ·have d1 : decide ((i : Int) < 24) = true := by simp; omega
       have k0 : (0 : Int) ≤ (i : Int) := Int.natCast_nonneg _
       have k1 : (i : Int) < 24 := by omega
       have R5 : Blk (wr.alloc (.cells #[.int .i64 0, .int .i64 0, .int .i64 0, .int .i64 0, .int .i64 0, .int .i64 0, .int .i64 0, .int .i64 0, .int .i64 0, .int .i64 0, .int .i64 0, .int .i64 0, .int .i64 0, .int .i64 0, .int .i64 0, .int .i64 0, .int .i64 0, .int .i64 0, .int .i64 0, .int .i64 0, .int .i64 0, .int .i64 0, .int .i64 0, .int .i64 0] 22)) wr.heap.size 22 24 (fun _ => 0) := by rw [zcol]; exact Blk.new wr _ _ _
       go_upto_region 19 with fail
       refine wp_region_lit ?_
       refine wpList_val (v := ?_) rfl ?_ ?_
       rotate_left
       ·(go_simp; rw [zcol])
       (try simp only [Act.put, nA, nB, nC])
       refine wpList_act (v := ?_) (w' := ?_) rfl ?_ ?_
       rotate_left 2
       ·(go_simp; (try (first | with_reducible rfl | (constructor <;> with_reducible rfl))))
       (try simp only [Act.put, nA, nB, nC])
       refine wpList_done (w' := ?_) rfl ?_ ?_
       rotate_left
       ·refine Eq.trans (run_store_row 22 (.tmp 16) (.tmp 63) (by rfl) (wr.heap.size) (by rfl) (by rfl) (R5) (icol.trans rfl)) ?_; with_reducible rfl
       (try simp only [Act.put, nA, nB, nC])
       refine wpList_nil ?_
       have S4 : Hid (RsB c (H2 || orB (rrH P F G) i) P (qS q 24) cb wb eb (clS P 24 0) (wS P G i 0) (eS P q i) w ((wr.alloc (.cells #[.int .i64 0, .int .i64 0, .int .i64 0, .int .i64 0, .int .i64 0, .int .i64 0, .int .i64 0, .int .i64 0, .int .i64 0, .int .i64 0, .int .i64 0, .int .i64 0, .int .i64 0, .int .i64 0, .int .i64 0, .int .i64 0, .int .i64 0, .int .i64 0, .int .i64 0, .int .i64 0, .int .i64 0, .int .i64 0, .int .i64 0, .int .i64 0] 22)).setRow wr.heap.size (arrv 24 (fun _ => 0)))) := Lib.hid (R.out.below (below_row ((Below.refl _ _).alloc (Nat.le_refl _) _) (Nat.le_refl _) _))
       have Y4 : Hid (Blk ((wr.alloc (.cells #[.int .i64 0, .int .i64 0, .int .i64 0, .int .i64 0, .int .i64 0, .int .i64 0, .int .i64 0, .int .i64 0, .int .i64 0, .int .i64 0, .int .i64 0, .int .i64 0, .int .i64 0, .int .i64 0, .int .i64 0, .int .i64 0, .int .i64 0, .int .i64 0, .int .i64 0, .int .i64 0, .int .i64 0, .int .i64 0, .int .i64 0, .int .i64 0] 22)).setRow wr.heap.size (arrv 24 (fun _ => 0))) wr.heap.size 22 24 (fun _ => 0)) := Lib.hid (R5.setRow _)
       clear R5
       have hrb : eb < wr.heap.size := R.out.eB.lt
       generalize (wr.alloc (.cells #[.int .i64 0, .int .i64 0, .int .i64 0, .int .i64 0, .int .i64 0, .int .i64 0, .int .i64 0, .int .i64 0, .int .i64 0, .int .i64 0, .int .i64 0, .int .i64 0, .int .i64 0, .int .i64 0, .int .i64 0, .int .i64 0, .int .i64 0, .int .i64 0, .int .i64 0, .int .i64 0, .int .i64 0, .int .i64 0, .int .i64 0, .int .i64 0] 22)).setRow wr.heap.size (arrv 24 (fun _ => 0)) = W4 at *
       generalize wr.heap.size = rb at *
       obtain ⟨H3, hH3⟩ : ∃ H3, (H2 || orB (rrH P F G) i) = H3 := ⟨_, rfl⟩
       rw [hH3] at S4
       have EH3 := Lib.hid hH3
       clear R hH3
       go_wp2_with fail
       go_loopw [17] (fun v wr => ∃ m : Nat, m ≤ 24 ∧ v = .int .i64 m ∧ Hid (RsB c (H3 || orB (fun k => satH (F (i * 24 + k))) m) P (qS q 24) cb wb eb (clS P 24 0) (wS P G i 0) (eS P q i) w wr ∧ Blk wr rb 22 24 (fun x => if x < m then satV (F (i * 24 + x)) else 0))) (fun v _ => 24 - (intOf v).toNat)
       case atStart =>
        refine ⟨0, by omega, rfl, Lib.hid ⟨?_, Y4.out.congr fun x hx => by simp⟩⟩
        rw [show (H3 || orB (fun k => satH (F (i * 24 + k))) 0) = H3 from by simp [orB]]
        exact S4.out
       case round =>
        obtain ⟨m, hm, rfl, Q⟩ := hrel
        clear S4 Y4
        by_cases hm24 : m < 24
        ·have d2 : decide ((m : Int) < 24) = true := by simp; omega
         have m0 : (0 : Int) ≤ (m : Int) := Int.natCast_nonneg _
         have m1 : (m : Int) < 24 := by omega
         have rc := Q.out.1.a.upd.cellc HC.out
         have rf := (Q.out.1.a.upd.frozen hcb).trans HF.out
         have x0 := (HFB.out.upd Q.out.1.a.upd hfc).cell (i := i * 24 + m) (by omega)
         have n0 := ne_of_cells rc x0
         have b0 := Q.out.2.cell (i := m) (by omega)
         have b1 := Q.out.2.free m
         have n1 := ne_of_cells rc b0
         have CC := Lib.hid (rsat_any c _ (F (i * 24 + m)) wr.drew rc rf)
         go_upto_region 23 with fail
         refine wp_region_M (fun w' => w'.cell? ⟨fb, i * 24 + m, none⟩ = some (.int .i64 (F (i * 24 + m)))) 13 (by kernel_rfl) ?_ (fun hHeld => ?_)
         ·exact x0
         refine tk 0 ?_
         (try simp only [Act.put, nA, nB, nC])
         refine tk 1 ?_
         (try simp only [Act.put, nA, nB, nC])
         refine tk 2 ?_
         (try simp only [Act.put, nA, nB, nC])
         refine tk 3 ?_
         (try simp only [Act.put, nA, nB, nC])
         refine tk 4 ?_
         (try simp only [Act.put, nA, nB, nC])
         refine tk 5 ?_
         (try simp only [Act.put, nA, nB, nC])
         refine tk 6 ?_
         (try simp only [Act.put, nA, nB, nC])
         refine tk 7 ?_
         (try simp only [Act.put, nA, nB, nC])
         refine tk 8 ?_
         (try simp only [Act.put, nA, nB, nC])
         refine tk 9 ?_
         (try simp only [Act.put, nA, nB, nC])
         refine tk 10 ?_
         (try simp only [Act.put, nA, nB, nC])
         refine wpAnyM_oneS 11 rfl (by kernel_rfl) (fun K hK => ?_)
         go_simp
         (refine CC.out.mono ?_); rintro e w' ⟨rfl, rfl⟩
         (try dsimp only)
         (try simp only [Act.put, nA, nB, nC])
         clear hHeld
         refine hK.out _ _ ?_ (fun hHeld => ?_)
         ·simp [go_sem, *]
         clear hK K
         (try simp only [Act.put, nA, nB, nC])
         refine tk 12 ?_
         (try simp only [Act.put, nA, nB, nC])
         refine wpAnyM_one 13 rfl (by kernel_rfl) (fun K hK => ?_)
         go_simp
         refine hK.out _ _ (.inl (by kernel_rfl)) (fun _ => ?_)
         clear hK K
         (try simp only [Act.put, nA, nB, nC])
         refine wpAnyM_done (by kernel_rfl) ?_ _
         have A1 : Upd c (H3 || orB (fun k => satH (F (i * 24 + k))) m || satH (F (i * 24 + m))) wr (wr.drew.setCell c (.bool (H3 || orB (fun k => satH (F (i * 24 + k))) m || satH (F (i * 24 + m))))) := Upd.after (Below.drew (Below.refl _ _)) (Upd.set c _ wr.drew)
         have S5 := Q.out.1.upd' hcb A1
         have hord := Q.out.1.ord
         have Y5 := Q.out.2.upd A1 (by omega)
         clear hord
         go_wp2_with fail
         go_roundw
         case rel =>
          refine ⟨m + 1, by omega, by go_num, ?_⟩
          rw [show (H3 || orB (fun k => satH (F (i * 24 + k))) (m + 1)) = (H3 || orB (fun k => satH (F (i * 24 + k))) m || satH (F (i * 24 + m))) from by simp [orB, Bool.or_assoc]]
          refine Lib.hid ⟨S5.other hrb _, (Y5.set m (satV (F (i * 24 + m)))).congr fun x hx => ?_⟩
          simp only [Go.Proofs.YtgfklheepkgedaaGreat.upd]
          by_cases h1 : x = m
          ·subst h1; rw [if_pos rfl, if_pos (by omega)]
          ·rw [if_neg h1]; split <;> split <;> first | rfl | omega
         case measure => simp [intOf]; omega
        ·have hm1 : m = 24 := by omega
         subst hm1
         rw [show ((24 : Nat) : Int) = 24 from rfl]
         obtain ⟨H4, hH4⟩ : ∃ H4, (H3 || orB (fun k => satH (F (i * 24 + k))) 24) = H4 := ⟨_, rfl⟩
         have Q2 : Hid (RsB c H4 P (qS q 24) cb wb eb (clS P 24 0) (wS P G i 0) (eS P q i) w wr ∧ Blk wr rb 22 24 (rowF 24 G i)) := Lib.hid ⟨by rw [← hH4]; exact Q.out.1, Q.out.2.congr fun x hx => by rw [if_pos hx]; unfold rowF; rw [HGV.out _ (by omega)]⟩
         have EH4 := Lib.hid hH4
         clear Q hm24 hm hH4
         go_wp2_with fail
         go_loopw [18] (fun v wr => ∃ m : Nat, m ≤ 24 ∧ v = .int .i64 m ∧ Hid (RsB c (H4 || orB (fun k => rwB P G i k) m) P (qS q 24) cb wb eb (clS P 24 0) (wS P G i m) (eS P q i) w wr ∧ Blk wr rb 22 24 (rowF 24 G i))) (fun v _ => 24 - (intOf v).toNat)
         case atStart =>
          refine ⟨0, by omega, rfl, ?_⟩
          rw [show (H4 || orB (fun k => rwB P G i k) 0) = H4 from by simp [orB]]
          exact Q2
         case round =>
          obtain ⟨m, hm, rfl, Q⟩ := hrel
          clear Q2
          by_cases hm24 : m < 24
          ·have d2 : decide ((m : Int) < 24) = true := by simp; omega
           have m0 : (0 : Int) ≤ (m : Int) := Int.natCast_nonneg _
           have m1 : (m : Int) < 24 := by omega
           have m2 : (m : Int) < 48 := by omega
           have rc := Q.out.1.a.upd.cellc HC.out
           have rf := (Q.out.1.a.upd.frozen hcb).trans HF.out
           have ga : ∀ x, x < 24 → wr.drew.cell? ⟨rb, 0 + x, none⟩ = some (.int .i64 (rowF 24 G i x)) := fun x hx => by rw [Nat.zero_add]; exact Q.out.2.cell (i := x) hx
           have gb : ∀ x, x < 24 → wr.drew.cell? ⟨cb, m * 24 + x, none⟩ = some (.int .i64 (colF P m x)) := fun x hx => (Q.out.1.cB.cell (i := m * 24 + x) (by omega)).trans (by simp only [clS]; rw [if_pos (by omega), show (m * 24 + x) / 24 = m by omega, show (m * 24 + x) % 24 = x by omega])
           have DC := Lib.hid (rdot_any c _ _ _ rb 0 24 cb (m * 24) 24 24 wr.drew rc rf (by decide) ga gb)
           have b0 := Q.out.1.wB.cell (i := i * 48 + m) (by omega)
           have b1 := Q.out.1.wB.free (i * 48 + m)
           have l1 := Q.out.1.wB.lt
           have n1 := ne_of_cells rc b0
           clear ga gb
           go_upto_region 27 with fail
           refine wp_region_M (fun w' => w'.cell? ⟨wb, i * 48 + m, none⟩ = some (.int .i64 (wS P G i m (i * 48 + m)))) 12 (by kernel_rfl) ?_ (fun hHeld => ?_)
           ·exact b0
           refine tk 0 ?_
           (try simp only [Act.put, nA, nB, nC])
           refine tk 1 ?_
           (try simp only [Act.put, nA, nB, nC])
           refine tk 2 ?_
           (try simp only [Act.put, nA, nB, nC])
           refine tk 3 ?_
           (try simp only [Act.put, nA, nB, nC])
           refine tk 4 ?_
           (try simp only [Act.put, nA, nB, nC])
           refine tk 5 ?_
           (try simp only [Act.put, nA, nB, nC])
           refine tk 6 ?_
           (try simp only [Act.put, nA, nB, nC])
           refine tk 7 ?_
           (try simp only [Act.put, nA, nB, nC])
           refine tk 8 ?_
           (try simp only [Act.put, nA, nB, nC])
           refine wpAnyM_takeW 10 (v := ?_) rfl (by kernel_rfl) (fun _ _ _ h => h) (Or.inl ⟨by rfl, ?_⟩) (.inr (by assumption)) ?_
           rotate_left
           ·(intro wx hSw; (try dsimp only at hSw); go_simp; (try with_reducible rfl))
           (try simp only [Act.put, nA, nB, nC])
           refine wpAnyM_oneS 9 rfl (by kernel_rfl) (fun K hK => ?_)
           go_simp
           (refine DC.out.mono ?_); rintro e w5 ⟨rfl, hu5⟩; have g0 := (hu5.frozen (a := ⟨wb, i * 48 + m, none⟩) l1).trans b1; have g1 := (hu5.cell (a := ⟨wb, i * 48 + m, none⟩) l1 n1).trans b0
           (try dsimp only)
           (try simp only [Act.put, nA, nB, nC])
           clear hHeld
           refine hK.out _ _ ?_ (fun hHeld => ?_)
           ·exact g1
           clear hK K
           (try simp only [Act.put, nA, nB, nC])
           refine tk 11 ?_
           (try simp only [Act.put, nA, nB, nC])
           refine wpAnyM_one 12 rfl (by kernel_rfl) (fun K hK => ?_)
           go_simp
           refine hK.out _ _ (.inl (by kernel_rfl)) (fun _ => ?_)
           clear hK K
           (try simp only [Act.put, nA, nB, nC])
           refine wpAnyM_done (by kernel_rfl) ?_ _
           have A1 : Upd c (H4 || orB (fun k => rwB P G i k) m || rwB P G i m) wr w5 := Upd.after (Below.drew (Below.refl _ _)) hu5
           have S5 := Q.out.1.upd' hcb A1
           have hord := Q.out.1.ord
           have Y5 := Q.out.2.upd A1 (by omega)
           clear hord
           have hrw : rb ≠ wb := by have := S5.ord; omega
           go_wp2_with fail
           go_roundw
           case rel =>
            refine ⟨m + 1, by omega, by go_num, ?_⟩
            rw [show (H4 || orB (fun k => rwB P G i k) (m + 1)) = (H4 || orB (fun k => rwB P G i k) m || rwB P G i m) from by simp [orB, Bool.or_assoc]]
            refine Lib.hid ⟨(S5.setW (i * 48 + m) (rwV P G i m)).cong (fun x hx => ?_) (fun x hx => rfl), Y5.other (by simp; omega) _⟩
            simp only [Go.Proofs.YtgfklheepkgedaaGreat.upd, wS]
            by_cases h1 : x = i * 48 + m
            ·subst h1; rw [if_pos rfl, if_neg (by omega), if_pos (by omega), show (i * 48 + m) % 48 = m by omega]
            ·rw [if_neg h1]
             by_cases h2 : x / 48 < i
             ·rw [if_pos h2, if_pos h2]
             ·rw [if_neg h2, if_neg h2]; split <;> split <;> first | rfl | omega
           case measure => simp [intOf]; omega
          ·have hm1 : m = 24 := by omega
           subst hm1
           rw [show ((24 : Nat) : Int) = 24 from rfl]
           have iw : IntKind.i64.wrap (24 + (i : Int)) = 24 + (i : Int) := IntWalk.i64_in _ (by omega)
           have hk3 : 0 ≤ 24 + (i : Int) := by omega
           have hk4 : 24 + (i : Int) < 48 := by omega
           have hk5 : (24 + (i : Int)).toNat = 24 + i := by omega
           have hk6 : (i : Int) < 48 := by omega
           have b0 := Q.out.1.wB.cell (i := i * 48 + (24 + i)) (by omega)
           have b1 := Q.out.1.wB.free (i * 48 + (24 + i))
           clear hm24 hm
           go_upto_region 29 with fail
           have S6 := Lib.hid (Q.out.1.setW (i * 48 + (24 + i)) 1073741824)
           clear b0 b1 Q
           generalize wr.setCell ⟨wb, i * 48 + (24 + i), none⟩ (.int .i64 1073741824) = W5 at *
           have p0 := S6.out.a.pB.cell (i := 276 + i) (by omega)
           have b0 := S6.out.eB.cell (i := i) (by omega)
           have b1 := S6.out.eB.free i
           go_upto_region 30 with fail
           have S7 := Lib.hid (S6.out.setE i (P (276 + i)))
           clear b0 b1 p0 S6
           generalize W5.setCell ⟨eb, i, none⟩ (.int .i64 (P (276 + i))) = W6 at *
           have p0 := S7.out.a.qB.cell (i := i) (by omega)
           have b0 := S7.out.eB.cell (i := 24 + i) (by omega)
           have b1 := S7.out.eB.free (24 + i)
           have hqv : qS q 24 i = qV (q i) := by simp only [qS]; rw [if_pos hlt]
           rw [hqv] at p0
           clear hqv
           go_wp2_with fail
           have S8 := Lib.hid (S7.out.setE (24 + i) (qV (q i)))
           clear b0 b1 p0 S7 iw hk3 hk4 hk5 hk6
           generalize W6.setCell ⟨eb, 24 + i, none⟩ (.int .i64 (qV (q i))) = W7 at *
           go_roundw
           case rel =>
            refine ⟨i + 1, by omega, by go_num, ?_⟩
            have e : (H2 || orB (rrH P F G) (i + 1)) = (H4 || orB (fun k => rwB P G i k) 24) := by
             rw [← EH4.out, ← EH3.out]
             simp [orB, rrH, Bool.or_assoc]
            rw [e]
            refine Lib.hid (S8.out.cong (fun x hx => ?_) (fun x hx => ?_))
            ·simp only [Go.Proofs.YtgfklheepkgedaaGreat.upd, wS]
             by_cases h1 : x = i * 48 + (24 + i)
             ·have q1 : x / 48 = i := by omega
              have q2 : x % 48 = 24 + i := by omega
              rw [if_pos h1, if_pos (by omega)]; unfold rowsW; rw [q1, q2, if_neg (by omega), if_pos rfl]
             ·rw [if_neg h1]
              by_cases h2 : x / 48 < i
              ·rw [if_pos h2, if_pos (by omega)]
              ·rw [if_neg h2]
               by_cases h3 : x / 48 = i
               ·rw [if_pos (show x / 48 < i + 1 by omega)]
                unfold rowsW
                by_cases h4 : x % 48 < 24
                ·rw [if_pos ⟨h3, h4⟩, if_pos h4, h3]
                ·have h5 : ¬ (x % 48 = 24 + x / 48) := fun e => h1 (by rw [h3] at e; have := Nat.div_add_mod x 48; rw [h3] at this; omega)
                 rw [if_neg (by omega), if_neg h4, if_neg h5]
               ·rw [if_neg (by omega), if_neg (by omega), if_neg (by omega)]
            ·simp only [Go.Proofs.YtgfklheepkgedaaGreat.upd, eS]
             by_cases h1 : x = 24 + i
             ·subst h1; rw [if_pos rfl, if_neg (by omega), if_pos (by omega), show 24 + i - 24 = i by omega]
             ·rw [if_neg h1]
              by_cases h2 : x = i
              ·subst h2; rw [if_pos rfl, if_pos (by omega)]
              ·rw [if_neg h2]; repeat' split
               all_goals first | rfl | omega
           case measure => simp [intOf]; omega
      ·have hi24 : i = 24 := by omega
       subst hi24
       rw [show ((24 : Nat) : Int) = 24 from rfl]
       clear hi hlt
       have R6 : Blk (wr.alloc (.cells Tryz.zeroCells26 26)) wr.heap.size 26 300 (fun _ => 0) := by rw [zcov]; exact Blk.new wr _ _ _
       go_upto_region 31 with fail
       refine wp_region_lit ?_
       refine wpList_val (v := ?_) rfl ?_ ?_
       rotate_left
       ·(go_simp; (try rw [zcov]); (try with_reducible rfl))
       (try simp only [Act.put, nA, nB, nC])
       refine wpList_act (v := ?_) (w' := ?_) rfl ?_ ?_
       rotate_left 2
       ·(go_simp; (try (first | with_reducible rfl | (constructor <;> with_reducible rfl))))
       (try simp only [Act.put, nA, nB, nC])
       refine wpList_done (w' := ?_) rfl ?_ ?_
       rotate_left
       ·refine Eq.trans (run_store_row 26 (.tmp 19) (.tmp 114) (by rfl) (wr.heap.size) (by rfl) (by rfl) (R6) (icov.trans rfl)) ?_; with_reducible rfl
       (try simp only [Act.put, nA, nB, nC])
       refine wpList_nil ?_
       have hord := R.out.ord
       have hobl : eb < wr.heap.size := R.out.eB.lt
       have S2 : StQ c (H2 || orB (rrH P F G) 24) eb wb wr.heap.size (stepE f q) (stepW f F) (fun _ => 0) w ((wr.alloc (.cells Tryz.zeroCells26 26)).setRow wr.heap.size (arrv 300 (fun _ => 0))) := by
        have BB : Below wr.heap.size wr ((wr.alloc (.cells Tryz.zeroCells26 26)).setRow wr.heap.size (arrv 300 (fun _ => 0))) := below_row ((Below.refl _ _).alloc (Nat.le_refl _) _) (Nat.le_refl _) _
        have S := R.out.below BB
        refine ⟨S.a.upd, ?_, S.wB.congr fun x hx => ?_, R6.setRow _, S.a.rB⟩
        ·rw [show stepE f q = eS P q 24 from by rw [← EP.out]; rfl]; exact S.eB
        ·simp only [wS]; rw [if_pos (by omega), show stepW f F = rowsW P G from by rw [← EP.out, ← EG.out]; rfl]
       obtain ⟨ob, hobe⟩ : ∃ ob, wr.heap.size = ob := ⟨_, rfl⟩
       have hk1 : Hid (w.heap.size + 3 ≤ eb ∧ eb < ob ∧ wb < ob ∧ wb ≠ eb ∧ w.heap.size + 2 < wb) := Lib.hid ⟨by omega, by omega, by omega, by omega, by omega⟩
       clear R6 R
       generalize (wr.alloc (.cells Tryz.zeroCells26 26)).setRow wr.heap.size (arrv 300 (fun _ => 0)) = W3 at *
       rw [hobe] at S2 ⊢
       obtain ⟨H5, hH5⟩ : ∃ H5, (H2 || orB (rrH P F G) 24) = H5 := ⟨_, rfl⟩
       obtain ⟨E, hE⟩ : ∃ E, stepE f q = E := ⟨_, rfl⟩
       obtain ⟨W, hW⟩ : ∃ W, stepW f F = W := ⟨_, rfl⟩
       rw [hH5, hE, hW] at S2
       have HSH := Lib.hid (show (h || (condH f || orB (fun k => qH (q k)) 24 || orB (rrH (condF f) F (fS F 24 0)) 24 || HN (stepW f F) (stepE f q) 24)) = (H5 || HN W E 24) by rw [← hH5, ← hE, ← hW, ← EH2.out, ← EH1.out, EP.out, EG.out]; simp only [Bool.or_assoc])
       have HSF := Lib.hid (show stepF f F q = ON W E 24 by rw [← hE, ← hW]; rfl)
       have HS2 := Lib.hid S2
       clear hH5 hE hW S2 hord hobl hobe HGV EG EP EH1 EH2 HFB hfb hfc
       obtain ⟨H2, hH2⟩ : ∃ x, H5 = x := ⟨_, rfl⟩
       rw [hH2] at HSH HS2
       clear hH2
       go_wp2_with fail
       go_loopw [20] (fun i wr => ∃ n : Nat, n ≤ 24 ∧ i = .int .i64 (23 - (n : Int)) ∧ Hid (StQ c (H2 || HN W E n) eb wb ob E (WN W E n) (ON W E n) w wr)) (fun i _ => (intOf i + 1).toNat)
       case atStart =>
        refine ⟨0, by omega, rfl, ?_⟩
        rw [show (H2 || HN W E 0) = H2 from by simp [HN]]
        exact HS2.out
       case round =>
        obtain ⟨n, hn, rfl, R⟩ := hrel
        by_cases hlt : n < 24
        ·obtain ⟨j, hj⟩ : ∃ j : Nat, (23 : Int) - (n : Int) = (j : Int) := ⟨23 - n, by omega⟩
         have hjn : j = 23 - n := by omega
         have hj24 : j < 24 := by omega
         have d0 : decide ((0 : Int) ≤ (j : Int)) = true := by simp
         have hj0 : (0 : Int) ≤ (j : Int) := Int.natCast_nonneg _
         have hj1 : (j : Int) < 24 := by omega
         obtain ⟨V, hV⟩ : ∃ V, WN W E n = V := ⟨_, rfl⟩
         obtain ⟨O, hO⟩ : ∃ O, ON W E n = O := ⟨_, rfl⟩
         obtain ⟨H3, hH3⟩ : ∃ H3, (H2 || HN W E n) = H3 := ⟨_, rfl⟩
         have R1 := Lib.hid (show StQ c H3 eb wb ob E V O w wr by rw [← hV, ← hO, ← hH3]; exact R.out)
         have HJN := Lib.hid hjn
         have HV := Lib.hid hV
         have HO := Lib.hid hO
         have HH3 := Lib.hid hH3
         rw [hj]
         have HJ := Lib.hid hj
         clear hj hjn hV hO hH3 R
         have hyb : Hid (ob < wr.heap.size) := R1.out.oB.lt
         have Y0 : Blk (wr.alloc (.cells #[.int .i64 0, .int .i64 0, .int .i64 0, .int .i64 0, .int .i64 0, .int .i64 0, .int .i64 0, .int .i64 0, .int .i64 0, .int .i64 0, .int .i64 0, .int .i64 0, .int .i64 0, .int .i64 0, .int .i64 0, .int .i64 0, .int .i64 0, .int .i64 0, .int .i64 0, .int .i64 0, .int .i64 0, .int .i64 0, .int .i64 0, .int .i64 0, .int .i64 0, .int .i64 0, .int .i64 0, .int .i64 0, .int .i64 0, .int .i64 0, .int .i64 0, .int .i64 0, .int .i64 0, .int .i64 0, .int .i64 0, .int .i64 0, .int .i64 0, .int .i64 0, .int .i64 0, .int .i64 0, .int .i64 0, .int .i64 0, .int .i64 0, .int .i64 0, .int .i64 0, .int .i64 0, .int .i64 0, .int .i64 0] 130)) wr.heap.size 130 48 (fun _ => 0) := by rw [zvec]; exact Blk.new wr _ _ _
         go_upto_region 35 with fail
         refine wp_region_lit ?_
         refine wpList_val (v := ?_) rfl ?_ ?_
         rotate_left
         ·(go_simp; rw [zvec])
         (try simp only [Act.put, nA, nB, nC])
         refine wpList_act (v := ?_) (w' := ?_) rfl ?_ ?_
         rotate_left 2
         ·(go_simp; (try (first | with_reducible rfl | (constructor <;> with_reducible rfl))))
         (try simp only [Act.put, nA, nB, nC])
         refine wpList_done (w' := ?_) rfl ?_ ?_
         rotate_left
         ·refine Eq.trans (run_store_row 130 (.tmp 21) (.tmp 119) (by rfl) (wr.heap.size) (by rfl) (by rfl) (Y0) (iy48.trans rfl)) ?_; with_reducible rfl
         (try simp only [Act.put, nA, nB, nC])
         refine wpList_nil ?_
         have S1 : StQ c H3 eb wb ob E V O w ((wr.alloc (.cells #[.int .i64 0, .int .i64 0, .int .i64 0, .int .i64 0, .int .i64 0, .int .i64 0, .int .i64 0, .int .i64 0, .int .i64 0, .int .i64 0, .int .i64 0, .int .i64 0, .int .i64 0, .int .i64 0, .int .i64 0, .int .i64 0, .int .i64 0, .int .i64 0, .int .i64 0, .int .i64 0, .int .i64 0, .int .i64 0, .int .i64 0, .int .i64 0, .int .i64 0, .int .i64 0, .int .i64 0, .int .i64 0, .int .i64 0, .int .i64 0, .int .i64 0, .int .i64 0, .int .i64 0, .int .i64 0, .int .i64 0, .int .i64 0, .int .i64 0, .int .i64 0, .int .i64 0, .int .i64 0, .int .i64 0, .int .i64 0, .int .i64 0, .int .i64 0, .int .i64 0, .int .i64 0, .int .i64 0, .int .i64 0] 130)).setRow wr.heap.size (arrv 48 (fun _ => 0))) := R1.out.below (below_row ((Below.refl _ _).alloc (Nat.le_refl _) _) (Nat.le_refl _) _)
         have Y1 : Blk ((wr.alloc (.cells #[.int .i64 0, .int .i64 0, .int .i64 0, .int .i64 0, .int .i64 0, .int .i64 0, .int .i64 0, .int .i64 0, .int .i64 0, .int .i64 0, .int .i64 0, .int .i64 0, .int .i64 0, .int .i64 0, .int .i64 0, .int .i64 0, .int .i64 0, .int .i64 0, .int .i64 0, .int .i64 0, .int .i64 0, .int .i64 0, .int .i64 0, .int .i64 0, .int .i64 0, .int .i64 0, .int .i64 0, .int .i64 0, .int .i64 0, .int .i64 0, .int .i64 0, .int .i64 0, .int .i64 0, .int .i64 0, .int .i64 0, .int .i64 0, .int .i64 0, .int .i64 0, .int .i64 0, .int .i64 0, .int .i64 0, .int .i64 0, .int .i64 0, .int .i64 0, .int .i64 0, .int .i64 0, .int .i64 0, .int .i64 0] 130)).setRow wr.heap.size (arrv 48 (fun _ => 0))) wr.heap.size 130 48 (fun _ => 0) := Y0.setRow _
         clear Y0
         generalize (wr.alloc (.cells #[.int .i64 0, .int .i64 0, .int .i64 0, .int .i64 0, .int .i64 0, .int .i64 0, .int .i64 0, .int .i64 0, .int .i64 0, .int .i64 0, .int .i64 0, .int .i64 0, .int .i64 0, .int .i64 0, .int .i64 0, .int .i64 0, .int .i64 0, .int .i64 0, .int .i64 0, .int .i64 0, .int .i64 0, .int .i64 0, .int .i64 0, .int .i64 0, .int .i64 0, .int .i64 0, .int .i64 0, .int .i64 0, .int .i64 0, .int .i64 0, .int .i64 0, .int .i64 0, .int .i64 0, .int .i64 0, .int .i64 0, .int .i64 0, .int .i64 0, .int .i64 0, .int .i64 0, .int .i64 0, .int .i64 0, .int .i64 0, .int .i64 0, .int .i64 0, .int .i64 0, .int .i64 0, .int .i64 0, .int .i64 0] 130)).setRow wr.heap.size (arrv 48 (fun _ => 0)) = W4 at *
         generalize wr.heap.size = yb at *
         have HS1 := Lib.hid S1
         have HY1 := Lib.hid Y1
         clear S1 Y1 R1
         go_wp2_with fail
         go_loopw [22] (fun i wr => ∃ k : Nat, k ≤ 48 ∧ i = .int .i64 k ∧ Hid (StQ c (H3 || orB (yB V E j) k) eb wb ob E V O w wr ∧ Blk wr yb 130 48 (fun x => if x < k then stY V E j x else 0))) (fun i _ => 48 - (intOf i).toNat)
         case atStart =>
          refine ⟨0, by omega, rfl, ?_, HY1.out.congr fun i hi => by simp⟩
          rw [show (H3 || orB (yB V E j) 0) = H3 from by simp [orB]]
          exact HS1.out
         case round =>
          obtain ⟨k, hk, rfl, Q⟩ := hrel
          by_cases hk48 : k < 48
          ·have d2 : decide ((k : Int) < 48) = true := by simp; omega
           have hk0 : (0 : Int) ≤ (k : Int) := Int.natCast_nonneg _
           have hk1' : (k : Int) < 48 := by omega
           have rc := Q.out.1.upd.cellc HC.out
           have rf := (Q.out.1.upd.frozen hcb).trans HF.out
           have x0 := Q.out.1.wB.cell (i := j * 48 + k) (by omega)
           have x1 := Q.out.1.eB.cell (i := k) (by omega)
           have n0 := ne_of_cells rc x0
           have n1 := ne_of_cells rc x1
           have MC := Lib.hid (rm_any c (H3 || orB (yB V E j) k) (V (j * 48 + k)) (E k) wr.drew rc rf)
           go_upto_region 39 with fail
           refine wp_region_M (fun w' => w'.cell? ⟨wb, j * 48 + k, none⟩ = some (.int .i64 (V (j * 48 + k))) ∧ w'.cell? ⟨eb, k, none⟩ = some (.int .i64 (E k))) 14 (by kernel_rfl) ?_ (fun hHeld => ?_)
           ·exact ⟨x0, x1⟩
           refine tk 0 ?_
           (try simp only [Act.put, nA, nB, nC])
           refine tk 1 ?_
           (try simp only [Act.put, nA, nB, nC])
           refine tk 2 ?_
           (try simp only [Act.put, nA, nB, nC])
           refine tk 3 ?_
           (try simp only [Act.put, nA, nB, nC])
           refine tk 4 ?_
           (try simp only [Act.put, nA, nB, nC])
           refine tk 5 ?_
           (try simp only [Act.put, nA, nB, nC])
           refine tk 6 ?_
           (try simp only [Act.put, nA, nB, nC])
           refine tk 7 ?_
           (try simp only [Act.put, nA, nB, nC])
           refine tk 8 ?_
           (try simp only [Act.put, nA, nB, nC])
           refine tk 9 ?_
           (try simp only [Act.put, nA, nB, nC])
           refine tk 10 ?_
           (try simp only [Act.put, nA, nB, nC])
           refine tk 11 ?_
           (try simp only [Act.put, nA, nB, nC])
           refine wpAnyM_oneS 12 rfl (by kernel_rfl) (fun K hK => ?_)
           go_simp
           (refine MC.out.mono ?_); rintro e w6 ⟨rfl, hu6⟩; have U6 : Upd c (H3 || orB (yB V E j) k || yB V E j k) wr w6 := Upd.after (Below.drew (Below.refl _ _)) hu6; have kp := keep2 U6 x0 x1 n0 n1; have Y6 := Q.out.2.upd U6 (Q.out.2.flag rc); have y0 := Y6.cell (i := k) (by omega); have y1 := Y6.free k; have HU6 := Lib.hid U6; clear U6 hu6
           (try dsimp only)
           (try simp only [Act.put, nA, nB, nC])
           clear hHeld
           refine hK.out _ _ ?_ (fun hHeld => ?_)
           ·exact kp
           clear hK K
           (try simp only [Act.put, nA, nB, nC])
           refine tk 13 ?_
           (try simp only [Act.put, nA, nB, nC])
           refine wpAnyM_one 14 rfl (by kernel_rfl) (fun K hK => ?_)
           go_simp
           refine hK.out _ _ (.inl (by kernel_rfl)) (fun _ => ?_)
           clear hK K
           (try simp only [Act.put, nA, nB, nC])
           refine wpAnyM_done (by kernel_rfl) ?_ _
           have k4 := hk1.out
           have k5 := hyb.out
           have S6 := Lib.hid (Q.out.1.upd' hcb (by omega) (by omega) (by omega) HU6.out)
           go_wp2_with fail
           go_roundw
           case rel =>
            refine ⟨k + 1, by omega, by go_num, ?_, ?_⟩
            ·rw [show (H3 || orB (yB V E j) (k + 1)) = (H3 || orB (yB V E j) k || yB V E j k) from by simp [orB, Bool.or_assoc]]
             exact S6.out.other (by omega) (by omega) (by omega) (by omega) (by omega) _
            ·refine (Y6.set _ _).congr fun i hi => ?_
             simp only [Go.Proofs.YtgfklheepkgedaaGreat.upd]
             by_cases h1 : i = k
             ·subst h1; rw [if_pos rfl, if_pos (by omega)]; rfl
             ·rw [if_neg h1]; split <;> split <;> first | rfl | omega
           case measure => simp [intOf]; omega
          ·have hk48' : k = 48 := by omega
           subst hk48'
           rw [show ((48 : Nat) : Int) = 48 from rfl]
           have rc := Q.out.1.upd.cellc HC.out
           have rf := (Q.out.1.upd.frozen hcb).trans HF.out
           have YB : Hid (Blk wr yb 130 48 (stY V E j)) := Q.out.2.congr fun i hi => by rw [if_pos hi]
           have SB := Lib.hid Q.out.1
           clear Q hk hk48
           have ga : ∀ i, i < 48 → wr.drew.cell? ⟨wb, j * 48 + i, none⟩ = some (.int .i64 (rowF 48 V j i)) := fun i hi => (SB.out.wB.cell (i := j * 48 + i) (by omega)).trans rfl
           have gb : ∀ i, i < 48 → wr.drew.cell? ⟨yb, 0 + i, none⟩ = some (.int .i64 (stY V E j i)) := fun i hi => by rw [Nat.zero_add]; exact YB.out.cell (i := i) hi
           have DC := Lib.hid (rdot_any c _ _ _ wb (j * 48) 48 yb 0 48 48 wr.drew rc rf (by decide) ga gb)
           clear ga gb
           go_upto_region 40 with fail
           go_region_with (first | (go_at_call 68; (refine DC.out.mono ?_); rintro e w6 ⟨rfl, hu6⟩; have kc := hu6.cellc rc; have kf := (hu6.frozen (World.block_lt_of_cell? _ _ rc)).trans rf; have HU6 := Lib.hid hu6; clear hu6) | (go_at_call 58; (refine (rclamp_any c _ _ _ _ _ kc kf).mono ?_); rintro e w' ⟨rfl, rfl⟩))
           have k4 := hk1.out
           have k5 := hyb.out
           have U7 : Upd c (H3 || orB (yB V E j) 48 || dB V E j) wr (w6.setCell c (.bool (H3 || orB (yB V E j) 48 || dB V E j))) := (Upd.after (Below.drew (Below.refl _ _)) HU6.out).trans (Upd.set c _ _)
           have eb7 : (H3 || orB (yB V E j) 48 || dB V E j) = (H3 || orB (yB V E j) 48 || dotH 30 (rowF 48 V j) (stY V E j) 48 || clampH (dotV 30 (rowF 48 V j) (stY V E j) 48) 1 72057594037927936) := by simp [dB, varH, Bool.or_assoc]
           have ed : clampV (dotV 30 (rowF 48 V j) (stY V E j) 48) 1 72057594037927936 = stD V E j := rfl
           rw [← eb7, ed]
           have S7 := SB.out.upd' hcb (by omega) (by omega) (by omega) U7
           have Y7 := YB.out.upd U7 (YB.out.flag rc)
           generalize w6.setCell c (.bool (H3 || orB (yB V E j) 48 || dB V E j)) = w7 at *
           obtain ⟨H4, hH4⟩ : ∃ H4, (H3 || orB (yB V E j) 48 || dB V E j) = H4 := ⟨_, rfl⟩
           rw [hH4] at S7
           have HH4 := Lib.hid hH4
           obtain ⟨D, hD⟩ : ∃ D, stD V E j = D := ⟨_, rfl⟩
           rw [hD]
           have HD := Lib.hid hD
           have o0 := S7.oB.cell (i := 276 + j) (by omega)
           have o1 := S7.oB.free (276 + j)
           have S8 : StQ c H4 eb wb ob E V (outI O V E j 0) w (w7.setCell ⟨ob, 276 + j, none⟩ (.int .i64 D)) := by
            have h8 := S7.oB.set (276 + j) D
            exact ⟨S7.upd.setCell (by simp; omega) _, S7.eB.other (by simp; omega) _, S7.wB.other (by simp; omega) _, by rw [← hD] at h8 ⊢; exact h8, S7.rB.other (by simp; omega) _⟩
           have Y8 := Y7.other (a := ⟨ob, 276 + j, none⟩) (by simp; omega) (.int .i64 D)
           have HS7 := Lib.hid S8
           have HY8 := Lib.hid Y8
           clear S7 Y7 U7 eb7 ed hH4 hD k4 k5 rc rf kc kf HU6 DC SB YB S8 Y8
           go_wp2_with fail
           have ybn : Hid (yb ≠ eb ∧ yb ≠ wb ∧ yb ≠ ob ∧ yb ≠ w.heap.size + 1 + 1 ∧ w.heap.size ≤ yb) := by have := hk1.out; have := hyb.out; exact ⟨by omega, by omega, by omega, by omega, by omega⟩
           go_loopw [24] (fun i wr => ∃ m : Nat, m ≤ j ∧ i = .int .i64 m ∧ Hid (StQ c (H4 || orB (rowB V E j) m) eb wb ob E (elW V E j m 0) (outI O V E j m) w wr ∧ Blk wr yb 130 48 (stY V E j))) (fun i _ => j - (intOf i).toNat)
           case atStart =>
            refine ⟨0, by omega, rfl, ?_, HY8.out⟩
            rw [show (H4 || orB (rowB V E j) 0) = H4 from by simp [orB]]
            exact ⟨HS7.out.upd, HS7.out.eB, HS7.out.wB.congr fun i hi => by simp [elW], HS7.out.oB, HS7.out.rB⟩
           case round =>
            obtain ⟨m, hm, rfl, Q⟩ := hrel
            by_cases hmj : m < j
            ·have d3 : decide ((m : Int) < (j : Int)) = true := by simp; omega
             have hm0 : (0 : Int) ≤ (m : Int) := Int.natCast_nonneg _
             have hm1 : (m : Int) < 24 := by omega
             have rc := Q.out.1.upd.cellc HC.out
             have rf := (Q.out.1.upd.frozen hcb).trans HF.out
             have ga : ∀ i, i < 48 → wr.drew.cell? ⟨wb, m * 48 + i, none⟩ = some (.int .i64 (rowF 48 V m i)) := fun i hi => (Q.out.1.wB.cell (i := m * 48 + i) (by omega)).trans (by simp only [elW, rowF]; rw [if_neg (by omega)])
             have gb : ∀ i, i < 48 → wr.drew.cell? ⟨yb, 0 + i, none⟩ = some (.int .i64 (stY V E j i)) := fun i hi => by rw [Nat.zero_add]; exact Q.out.2.cell (i := i) hi
             have DC := Lib.hid (rdot_any c _ _ _ wb (m * 48) 48 yb 0 48 48 wr.drew rc rf (by decide) ga gb)
             clear ga gb
             go_upto_region 45 with fail
             go_region_with (first | (go_at_call 68; (refine DC.out.mono ?_); rintro e w8 ⟨rfl, hu8⟩; have kc := hu8.cellc rc; have kf := (hu8.frozen (World.block_lt_of_cell? _ _ rc)).trans rf; have HU8 := Lib.hid hu8; clear hu8) | (go_at_call 67; (refine (rd_any c _ _ D _ kc kf).mono ?_); rintro e w9 ⟨rfl, hu9⟩))
             have k4 := hk1.out
             have k5 := hyb.out
             have U9 : Upd c (H4 || orB (rowB V E j) m || uB V E j m) wr w9 := by
              have := (Upd.after (Below.drew (Below.refl wr.heap.size wr)) HU8.out).trans hu9
              rw [← HD.out] at this
              rw [show (H4 || orB (rowB V E j) m || uB V E j m) = (H4 || orB (rowB V E j) m || dotH 30 (rowF 48 V m) (stY V E j) 48 || divH (dotV 30 (rowF 48 V m) (stY V E j) 48) (stD V E j) 30) from by simp [uB, Bool.or_assoc]]
              exact this
             have eu : divV (dotV 30 (rowF 48 V m) (stY V E j) 48) D 30 = stU V E j m := by rw [← HD.out]; rfl
             rw [eu]
             obtain ⟨u, hu⟩ : ∃ u, stU V E j m = u := ⟨_, rfl⟩
             rw [hu]
             have HU := Lib.hid hu
             have S9 := Lib.hid (Q.out.1.upd' hcb (by omega) (by omega) (by omega) U9)
             have Y9 := Lib.hid (Q.out.2.upd U9 (Q.out.2.flag rc))
             obtain ⟨pp, hpp⟩ : ∃ pp, pl m j = pp := ⟨_, rfl⟩
             have pp1 : pp < 276 := by rw [← hpp]; exact pl_lt hmj hj24
             have PL := Lib.hid (fun w => rplace_any m j w (by omega) hj24 hmj)
             rw [hpp] at PL
             have o8 := S9.out.oB.cell (i := pp) (by omega)
             have o9 := S9.out.oB.free pp
             have pz0 : (0 : Int) ≤ (pp : Int) := Int.natCast_nonneg _
             have pz1 : (pp : Int) < 276 := by omega
             have HPP := Lib.hid hpp
             clear hpp
             clear U9 eu hu hu9 HU8 kc kf rc rf Q DC k4 k5
             go_upto_region 47 with (go_at_call 101; (refine (PL.out _).mono ?_); rintro e w10 ⟨rfl, rfl⟩)
             have k4 := hk1.out
             have k6 := ybn.out
             have S11 : StQ c (H4 || orB (rowB V E j) m || uB V E j m) eb wb ob E (elW V E j m 0) (outI O V E j (m + 1)) w (w9.setCell ⟨ob, pp, none⟩ (.int .i64 u)) :=
              ⟨S9.out.upd.setCell (by simp; omega) _, S9.out.eB.other (by simp; omega) _, S9.out.wB.other (by simp; omega) _, by have := S9.out.oB.set pp u; rw [← HU.out, ← HPP.out] at this ⊢; exact this, S9.out.rB.other (by simp; omega) _⟩
             have Y11 := Y9.out.other (a := ⟨ob, pp, none⟩) (by simp; omega) (.int .i64 u)
             generalize w9.setCell ⟨ob, pp, none⟩ (.int .i64 u) = w11 at *
             clear o8 o9 pz0 pz1 pp1 PL
             go_wp2_with fail
             have HS11 := Lib.hid S11
             have HY11 := Lib.hid Y11
             clear S11 Y11 S9 Y9 k4 k6
             go_loopw [26] (fun i wr => ∃ k : Nat, k ≤ 48 ∧ i = .int .i64 k ∧ Hid (StQ c (H4 || orB (rowB V E j) m || uB V E j m || orB (elB V u j m) k) eb wb ob E (elW V E j m k) (outI O V E j (m + 1)) w wr ∧ Blk wr yb 130 48 (stY V E j))) (fun i _ => 48 - (intOf i).toNat)
             case atStart =>
              refine ⟨0, by omega, rfl, ?_, HY11.out⟩
              rw [show (H4 || orB (rowB V E j) m || uB V E j m || orB (elB V u j m) 0) = (H4 || orB (rowB V E j) m || uB V E j m) from by simp [orB]]
              exact HS11.out
             case round =>
              obtain ⟨k, hk, rfl, Q⟩ := hrel
              by_cases hk48 : k < 48
              ·have d4 : decide ((k : Int) < 48) = true := by simp; omega
               have hk0 : (0 : Int) ≤ (k : Int) := Int.natCast_nonneg _
               have hk1' : (k : Int) < 48 := by omega
               have rc := Q.out.1.upd.cellc HC.out
               have rf := (Q.out.1.upd.frozen hcb).trans HF.out
               have x0 := Q.out.1.wB.cell (i := m * 48 + k) (by omega)
               have x1 := Q.out.1.wB.cell (i := j * 48 + k) (by omega)
               have hx0 : elW V E j m k (m * 48 + k) = V (m * 48 + k) := by simp only [elW]; rw [if_neg (by omega)]
               have hx1 : elW V E j m k (j * 48 + k) = V (j * 48 + k) := by simp only [elW]; rw [if_neg (by omega)]
               rw [hx0] at x0
               rw [hx1] at x1
               have n0 := ne_of_cells rc x0
               have n1 := ne_of_cells rc x1
               have MC := Lib.hid (rm_any c (H4 || orB (rowB V E j) m || uB V E j m || orB (elB V u j m) k) u (V (j * 48 + k)) wr.drew rc rf)
               clear hx0 hx1
               go_upto_region 50 with fail
               refine wp_region_M (fun w' => w'.cell? ⟨wb, m * 48 + k, none⟩ = some (.int .i64 (V (m * 48 + k))) ∧ w'.cell? ⟨wb, j * 48 + k, none⟩ = some (.int .i64 (V (j * 48 + k)))) 23 (by kernel_rfl) ?_ (fun hHeld => ?_)
               ·exact ⟨x0, x1⟩
               refine tk 0 ?_
               (try simp only [Act.put, nA, nB, nC])
               refine tk 1 ?_
               (try simp only [Act.put, nA, nB, nC])
               refine tk 2 ?_
               (try simp only [Act.put, nA, nB, nC])
               refine tk 3 ?_
               (try simp only [Act.put, nA, nB, nC])
               refine tk 4 ?_
               (try simp only [Act.put, nA, nB, nC])
               refine tk 5 ?_
               (try simp only [Act.put, nA, nB, nC])
               refine tk 6 ?_
               (try simp only [Act.put, nA, nB, nC])
               refine tk 7 ?_
               (try simp only [Act.put, nA, nB, nC])
               refine tk 8 ?_
               (try simp only [Act.put, nA, nB, nC])
               refine tk 9 ?_
               (try simp only [Act.put, nA, nB, nC])
               refine tk 10 ?_
               (try simp only [Act.put, nA, nB, nC])
               refine tk 11 ?_
               (try simp only [Act.put, nA, nB, nC])
               refine tk 12 ?_
               (try simp only [Act.put, nA, nB, nC])
               refine tk 13 ?_
               (try simp only [Act.put, nA, nB, nC])
               refine tk 14 ?_
               (try simp only [Act.put, nA, nB, nC])
               refine tk 15 ?_
               (try simp only [Act.put, nA, nB, nC])
               refine tk 16 ?_
               (try simp only [Act.put, nA, nB, nC])
               refine tk 17 ?_
               (try simp only [Act.put, nA, nB, nC])
               refine tk 18 ?_
               (try simp only [Act.put, nA, nB, nC])
               refine wpAnyM_takeW 21 (v := ?_) rfl (by kernel_rfl) (fun _ _ _ h => h) (Or.inl ⟨by rfl, ?_⟩) (.inr (by assumption)) ?_
               rotate_left
               ·(intro wx hSw; (try dsimp only at hSw); go_simp; (try with_reducible rfl))
               (try simp only [Act.put, nA, nB, nC])
               refine wpAnyM_oneS 19 rfl (by kernel_rfl) (fun K hK => ?_)
               go_simp
               (refine MC.out.mono ?_); rintro e w12 ⟨rfl, hu12⟩; have kp := keep2 (Upd.after (Below.drew (Below.refl _ _)) hu12) x0 x1 n0 n1; have kc := hu12.cellc rc; have kf := (hu12.frozen (World.block_lt_of_cell? _ _ rc)).trans rf; have HU12 := Lib.hid hu12; clear hu12
               (try dsimp only)
               (try simp only [Act.put, nA, nB, nC])
               clear hHeld
               refine hK.out _ _ ?_ (fun hHeld => ?_)
               ·exact kp
               clear hK K
               (try simp only [Act.put, nA, nB, nC])
               refine wpAnyM_oneS 20 rfl (by kernel_rfl) (fun K hK => ?_)
               go_simp
               (refine (rsub_any c _ (V (m * 48 + k)) (mulV u (V (j * 48 + k)) 30) _ kc kf).mono ?_); rintro e w13 ⟨rfl, hw13⟩; have U13 : Upd c (H4 || orB (rowB V E j) m || uB V E j m || orB (elB V u j m) k || elB V u j m k) wr w13 := (by rw [← hw13]; rw [show (H4 || orB (rowB V E j) m || uB V E j m || orB (elB V u j m) k || elB V u j m k) = (H4 || orB (rowB V E j) m || uB V E j m || orB (elB V u j m) k || mulH u (V (j * 48 + k)) 30 || satH (V (m * 48 + k)) || satH (mulV u (V (j * 48 + k)) 30) || satH (satV (V (m * 48 + k)) - satV (mulV u (V (j * 48 + k)) 30))) from by simp [elB, subH, Bool.or_assoc]]; exact (Upd.after (Below.drew (Below.refl _ _)) HU12.out).trans (Upd.set c _ _)); have kp2 := keep2 U13 x0 x1 n0 n1; have kz := (Q.out.1.wB.upd U13 (Q.out.1.wB.flag rc)).free (m * 48 + k); have HU13 := Lib.hid U13; clear U13 hw13
               (try dsimp only)
               (try simp only [Act.put, nA, nB, nC])
               clear hHeld
               refine hK.out _ _ ?_ (fun hHeld => ?_)
               ·exact kp2
               clear hK K
               (try simp only [Act.put, nA, nB, nC])
               refine tk 22 ?_
               (try simp only [Act.put, nA, nB, nC])
               refine wpAnyM_one 23 rfl (by kernel_rfl) (fun K hK => ?_)
               go_simp
               refine hK.out _ _ (.inl (by kernel_rfl)) (fun _ => ?_)
               clear hK K
               (try simp only [Act.put, nA, nB, nC])
               refine wpAnyM_done (by kernel_rfl) ?_ _
               have k4 := hk1.out
               have k6 := ybn.out
               have S13 := Lib.hid (Q.out.1.upd' hcb (by omega) (by omega) (by omega) HU13.out)
               have Y13 := Lib.hid (Q.out.2.upd HU13.out (Q.out.2.flag rc))
               go_wp2_with fail
               go_roundw
               case rel =>
                refine ⟨k + 1, by omega, by go_num, ⟨?_, S13.out.eB.other (by simp; omega) _, ?_, S13.out.oB.other (by simp; omega) _, S13.out.rB.other (by simp; omega) _⟩, Y13.out.other (by simp; omega) _⟩
                ·rw [show (H4 || orB (rowB V E j) m || uB V E j m || orB (elB V u j m) (k + 1)) = (H4 || orB (rowB V E j) m || uB V E j m || orB (elB V u j m) k || elB V u j m k) from by simp [orB, Bool.or_assoc]]
                 exact S13.out.upd.setCell (by simp; omega) _
                ·refine (S13.out.wB.set _ _).congr fun i hi => ?_
                 simp only [Go.Proofs.YtgfklheepkgedaaGreat.upd, elW]
                 by_cases h1 : i = m * 48 + k
                 ·subst h1
                  rw [if_pos rfl, if_pos (by omega), show (m * 48 + k) / 48 = m by omega, show (m * 48 + k) % 48 = k by omega, HU.out]
                  rfl
                 ·rw [if_neg h1]; split <;> split <;> first | rfl | omega
               case measure => simp [intOf]; omega
              ·have hk48' : k = 48 := by omega
               subst hk48'
               rw [show ((48 : Nat) : Int) = 48 from rfl]
               have HQ := Lib.hid Q.out
               clear Q hk hk48
               go_wp2_with fail
               go_roundw
               case rel =>
                refine ⟨m + 1, by omega, by go_num, ⟨?_, HQ.out.1.eB, ?_, HQ.out.1.oB, HQ.out.1.rB⟩, HQ.out.2⟩
                ·rw [show (H4 || orB (rowB V E j) (m + 1)) = (H4 || orB (rowB V E j) m || uB V E j m || orB (elB V u j m) 48) from by rw [← HU.out]; simp [orB, rowB, Bool.or_assoc]]
                 exact HQ.out.1.upd
                ·exact HQ.out.1.wB.congr fun i hi => by simp only [elW]; split <;> split <;> first | rfl | omega
               case measure => simp [intOf]; omega
            ·have hmj' : m = j := by omega
             subst hmj'
             have HQ := Lib.hid Q.out
             clear Q hm hmj
             go_wp2_with fail
             go_roundw
             case rel =>
              have hn1 := HJN.out
              refine ⟨n + 1, by omega, by have := HJ.out; congr 1; omega, ?_⟩
              have eW : WN W E (n + 1) = elW V E m m 0 := by rw [← HV.out, hn1]; rfl
              have eO : ON W E (n + 1) = outI O V E m m := by rw [← HV.out, ← HO.out, hn1]; rfl
              have eH : (H2 || HN W E (n + 1)) = (H4 || orB (rowB V E m) m) := by
               rw [← HH4.out, ← HH3.out, ← HV.out, hn1]; simp [HN, stageH, Bool.or_assoc]
              rw [eW, eO, eH]
              exact HQ.out.1
             case measure => simp [intOf]
        ·have hn24 : n = 24 := by omega
         subst hn24
         rw [show (23 : Int) - ((24 : Nat) : Int) = -1 from rfl]
         have O1 := R.out.oB
         have R1 := R.out.rB
         have U1 := Lib.hid R.out.upd
         have k4 := hk1.out
         clear R hlt hn
         go_wp2_with (first | (refine wpList_load_row rfl 26 _ rfl ob rfl 26 _ (0, 0) _ O1 Tryz.underlying26 rfl (icov.trans (by rw [arrv_size])) ?_) | (refine wpList_store_row rfl 26 _ _ rfl (w.heap.size + 1 + 1) _ rfl rfl 26 _ R1 (icov.trans (by rw [arrv_size])) (by rw [arrv_size, arrv_size]) (oneCell_arrv _ _) ?_))
         refine bodyPost_ret (results_cell_row Tryz.results70 _ _ (w.heap.size + 1 + 1) 26 (arrv 300 (ON W E 24)) (0, 0) _ rfl (setRow_heap _ _ _ _ _ _ R1) Tryz.underlying26 rfl (icov.trans (by rw [arrv_size]))) rfl ⟨_, ?_, ?_, rfl⟩
         ·rw [HSF.out]
         ·rw [HSH.out]
          exact U1.out.then' (below_row (Below.refl _ _) (by omega) _)
end Go.Proofs.YtgfklheepkgedaaGreat
