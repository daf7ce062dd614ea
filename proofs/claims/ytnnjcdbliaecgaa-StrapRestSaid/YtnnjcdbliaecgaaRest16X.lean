/- The walk of StrapRest (2): up to the velocities. -/
import Derived.Test.YtnnjcdbliaecgaaRest16W
namespace Go.Proofs.Ytnnjcdbliaecgaa
open Go.RowKit
set_option maxRecDepth 100000
theorem re_start (X : Nat → Int) (w w1 : World) (hb : Below (w.alloc (.cells (arrv 3 X) 40)).heap.size (w.alloc (.cells (arrv 3 X) 40)) w1) :
    Below w.heap.size w (w1.alloc (.cells #[.bool false] 25)) ∧ Flg (w1.alloc (.cells #[.bool false] 25)) w1.heap.size false ∧ Blk (w1.alloc (.cells #[.bool false] 25)) w.heap.size 40 3 X ∧ w.heap.size < w1.heap.size := by
  have bl : Below w.heap.size w (w.alloc (.cells (arrv 3 X) 40)) := by (repeat (first | with_reducible exact Below.refl _ _ | with_reducible apply Below.drew | (with_reducible refine below_drewN ?_ _) | (with_reducible refine Below.alloc ?_ (by (try simp) <;> omega) _) | (with_reducible refine Below.setCell ?_ (by (try simp) <;> omega) _)))
  have z := hb.size
  simp at z
  have b2 : Below w.heap.size w w1 := bl.trans (hb.mono bl.size)
  exact ⟨b2.alloc b2.size _, Flg.new _ _, ((Blk.new w _ 3 X).below hb).alloc _, by omega⟩
set_option maxHeartbeats 32000000 in
theorem rest16_yes (hd us : Int) (m : Nat) (X : Nat → Int) (w : World) (h1 : 1000 ≤ us) (h2 : us ≤ 100000) (hm : m ≤ 50) :
    Calls Try.prog 7 #[.int .i64 hd, .agg (arrv 3 X), .int .i64 us, .int .i64 (m : Int)] w fun e w' => e = .returned (.bool true) ∧ Below w.heap.size w w' := by
  have GS := Lib.hid (fun (w1 : World) hb => re_start X w w1 hb)
  have c1 : decide (us < 1000) = false := by simp; omega
  have c2 : decide (100000 < us) = false := by simp; omega
  have c3 : decide ((m : Int) < 0) = false := by simp
  have c4 : decide (50 < (m : Int)) = false := by simp; omega
  have FC := fun (c : Addr) (x : World) (k : x.cell? c = some (.bool false)) (f : x.frozen? c = false) => fromyaw_any c false hd x k f
  rw [(fy_calm hd).1] at FC
  have FC := Lib.hid FC
  have HI := Lib.hid (And.intro h1 (And.intro h2 hm))
  clear h1 h2 hm
  go_enter Try.func7, Try.ntmps7
  go_upto_region 5 with (go_at_call 8; (refine (awake16_any _).mono ?_); rintro e w1 ⟨rfl, hb1⟩)
  have S0 := Lib.hid (GS.out w1 hb1)
  clear hb1 GS
  go_upto_region 6 with fail
  generalize w1.alloc (.cells #[.bool false] 25) = W0 at *
  obtain ⟨bc, hbc⟩ : ∃ x, w1.heap.size = x := ⟨_, rfl⟩
  rw [hbc] at S0 ⊢
  clear hbc
  refine wp_region_lit ?_
  refine wpList_val (v := ?_) rfl ?_ ?_
  rotate_left
  · (go_simp; (try (first | with_reducible rfl | (constructor <;> with_reducible rfl))))
  (try simp only [Act.put, nA, nB, nC])
  refine wpList_val (v := ?_) rfl ?_ ?_
  rotate_left
  · (go_simp; (try (first | with_reducible rfl | (constructor <;> with_reducible rfl))))
  (try simp only [Act.put, nA, nB, nC])
  refine wpList_step (fun K hK => ?_)
  go_simp
  (refine (FC.out ⟨bc, 0, none⟩ _ S0.out.2.1.cell S0.out.2.1.free).mono ?_); rintro e w2 ⟨rfl, hu⟩; have S1 := Lib.hid (And.intro (below_of_upd S0.out.1 hu (by have := S0.out.2.2.2; simp only; omega)) (And.intro (S0.out.2.1.hit hu) (And.intro (S0.out.2.2.1.upd hu (by have := S0.out.2.2.2; simp only; omega)) S0.out.2.2.2))); clear hu S0 FC
  (try dsimp only)
  (try simp only [Act.put, nA, nB, nC])
  refine hK _ _ ?_
  clear hK K
  refine wpList_act (v := ?_) (w' := ?_) rfl ?_ ?_
  rotate_left 2
  · (go_simp; (try (first | with_reducible rfl | (constructor <;> with_reducible rfl))))
  (try simp only [Act.put, nA, nB, nC])
  refine wpList_done (w' := ?_) rfl ?_ ?_
  rotate_left
  · (refine Eq.trans (run_store_row 42 (.tmp 10) (.tmp 38) (by rfl) (w2.heap.size) (by rfl) (by rfl) (show Blk (w2.alloc (.cells #[.int .i64 0, .int .i64 0, .int .i64 0, .int .i64 0] 42)) w2.heap.size 42 4 (fun _ => 0) by rw [zq4]; exact Blk.new _ _ _ _) (iqt.trans rfl)) ?_; with_reducible rfl)
  (try simp only [Act.put, nA, nB, nC])
  refine wpList_nil ?_
  have Q2 : Blk ((w2.alloc (.cells #[.int .i64 0, .int .i64 0, .int .i64 0, .int .i64 0] 42)).setRow w2.heap.size (arrv 4 (fyV hd))) w2.heap.size 42 4 (fyV hd) := by rw [zq4]; exact (Blk.new _ _ _ _).setRow _
  have B2 : Below w2.heap.size w2 ((w2.alloc (.cells #[.int .i64 0, .int .i64 0, .int .i64 0, .int .i64 0] 42)).setRow w2.heap.size (arrv 4 (fyV hd))) := below_row ((Below.refl _ _).alloc (Nat.le_refl _) _) (Nat.le_refl _) _
  have S2 := Lib.hid (And.intro (S1.out.1.trans (B2.mono S1.out.1.size)) (And.intro (S1.out.2.1.below B2) (And.intro (S1.out.2.2.1.below B2) S1.out.2.2.2)))
  have hq := S1.out.2.1.lt
  generalize (w2.alloc (.cells #[.int .i64 0, .int .i64 0, .int .i64 0, .int .i64 0] 42)).setRow w2.heap.size (arrv 4 (fyV hd)) = W2 at *
  obtain ⟨qb, hqb⟩ : ∃ x, w2.heap.size = x := ⟨_, rfl⟩
  rw [hqb] at Q2 hq ⊢
  clear B2 S1 hqb
  obtain ⟨Q, hQ⟩ : ∃ Q, fyV hd = Q := ⟨_, rfl⟩
  rw [hQ] at Q2 ⊢
  have HQ := Lib.hid hQ
  clear hQ
  have k0 := Q2.cell (i := 0) (by decide)
  have k1 := Q2.cell (i := 1) (by decide)
  have k2 := Q2.cell (i := 2) (by decide)
  have k3 := Q2.cell (i := 3) (by decide)
  go_upto_region 7 with fail
  have EW := Lib.hid (show arrv 24 (withF (fun _ => 0) 0 4 (q4 (Q 0) (Q 1) (Q 2) (Q 3))) = arrv 24 (resS Q X 0) from arrv_congr fun i _ => by
    rw [← resS_0 Q X i]
    unfold withF
    by_cases h : i < 4
    · rw [if_pos (by omega), if_pos (by omega), show ((i : Int) - 0).toNat = i by omega]
      obtain rfl | rfl | rfl | rfl : i = 0 ∨ i = 1 ∨ i = 2 ∨ i = 3 := by omega
      all_goals rfl
    · rw [if_neg (by omega), if_neg (by omega)])
  obtain ⟨g0, hg0⟩ : ∃ x, Q 0 = x := ⟨_, rfl⟩
  obtain ⟨g1, hg1⟩ : ∃ x, Q 1 = x := ⟨_, rfl⟩
  obtain ⟨g2, hg2⟩ : ∃ x, Q 2 = x := ⟨_, rfl⟩
  obtain ⟨g3, hg3⟩ : ∃ x, Q 3 = x := ⟨_, rfl⟩
  rw [hg0] at k0
  rw [hg1] at k1
  rw [hg2] at k2
  rw [hg3] at k3
  rw [hg0, hg1, hg2, hg3] at EW
  clear hg0 hg1 hg2 hg3
  refine wp_region_lit ?_
  refine wpList_val (v := ?_) rfl ?_ ?_
  rotate_left
  · (refine Eq.trans (run_build_st0 (by rfl)) ?_; with_reducible rfl)
  (try simp only [Act.put, nA, nB, nC])
  refine wpList_val (v := ?_) rfl ?_ ?_
  rotate_left
  · (go_simp; (try (first | with_reducible rfl | (constructor <;> with_reducible rfl))))
  (try simp only [Act.put, nA, nB, nC])
  refine wpList_val (v := ?_) rfl ?_ ?_
  rotate_left
  · (go_simp; (try (first | with_reducible rfl | (constructor <;> with_reducible rfl))))
  (try simp only [Act.put, nA, nB, nC])
  refine wpList_val (v := ?_) rfl ?_ ?_
  rotate_left
  · (go_simp; (try (first | with_reducible rfl | (constructor <;> with_reducible rfl))))
  (try simp only [Act.put, nA, nB, nC])
  refine wpList_val (v := ?_) rfl ?_ ?_
  rotate_left
  · (go_simp; (try (first | with_reducible rfl | (constructor <;> with_reducible rfl))))
  (try simp only [Act.put, nA, nB, nC])
  refine wpList_val (v := ?_) rfl ?_ ?_
  rotate_left
  · (go_simp; (try (first | with_reducible rfl | (constructor <;> with_reducible rfl))))
  (try simp only [Act.put, nA, nB, nC])
  refine wpList_val (v := ?_) rfl ?_ ?_
  rotate_left
  · (go_simp; (try (first | with_reducible rfl | (constructor <;> with_reducible rfl))))
  (try simp only [Act.put, nA, nB, nC])
  refine wpList_val (v := ?_) rfl ?_ ?_
  rotate_left
  · (go_simp; (try (first | with_reducible rfl | (constructor <;> with_reducible rfl))))
  (try simp only [Act.put, nA, nB, nC])
  refine wpList_val (v := ?_) rfl ?_ ?_
  rotate_left
  · (go_simp; (try (first | with_reducible rfl | (constructor <;> with_reducible rfl))))
  (try simp only [Act.put, nA, nB, nC])
  refine wpList_act (v := ?_) (w' := ?_) rfl ?_ ?_
  rotate_left 2
  · (go_simp; (try (first | with_reducible rfl | (constructor <;> with_reducible rfl))))
  (try simp only [Act.put, nA, nB, nC])
  refine wpList_step (fun K hK => ?_)
  go_simp
  (refine (swith_any (fun _ => 0) 0 (some ⟨W2.heap.size, 0, none⟩) 4 4 (q4 g0 g1 g2 g3) _ (by decide) (by decide) (by decide) (fun i hi => ⟨W2.heap.size, 0, rfl, lst4 W2 2 g0 g1 g2 g3 i hi⟩)).mono ?_); (rw [EW.out]); rintro e w3 ⟨rfl, hb⟩; have B3 := Lib.hid (Below.trans ((Below.refl W2.heap.size W2).alloc (Nat.le_refl _) (.cells #[.int .i64 g0, .int .i64 g1, .int .i64 g2, .int .i64 g3] 2)) (hb.mono (by simp))); clear hb
  (try dsimp only)
  (try simp only [Act.put, nA, nB, nC])
  refine hK _ _ ?_
  clear hK K
  refine wpList_act (v := ?_) (w' := ?_) rfl ?_ ?_
  rotate_left 2
  · (go_simp; (try (first | with_reducible rfl | (constructor <;> with_reducible rfl))))
  (try simp only [Act.put, nA, nB, nC])
  refine wpList_done (w' := ?_) rfl ?_ ?_
  rotate_left
  · (refine Eq.trans (run_store_row 27 (.tmp 11) (.tmp 49) (by rfl) (w3.heap.size) (by rfl) (by rfl) (show Blk (w3.alloc (.cells #[.int .i64 0, .int .i64 0, .int .i64 0, .int .i64 0, .int .i64 0, .int .i64 0, .int .i64 0, .int .i64 0, .int .i64 0, .int .i64 0, .int .i64 0, .int .i64 0, .int .i64 0, .int .i64 0, .int .i64 0, .int .i64 0, .int .i64 0, .int .i64 0, .int .i64 0, .int .i64 0, .int .i64 0, .int .i64 0, .int .i64 0, .int .i64 0] 27)) w3.heap.size 27 24 (fun _ => 0) by rw [zvec24]; exact Blk.new _ _ _ _) (ist.trans rfl)) ?_; with_reducible rfl)
  (try simp only [Act.put, nA, nB, nC])
  refine wpList_nil ?_
  have S4 : Hid (ReR bc w3.heap.size X (resS Q X 0) w ((w3.alloc (.cells #[.int .i64 0, .int .i64 0, .int .i64 0, .int .i64 0, .int .i64 0, .int .i64 0, .int .i64 0, .int .i64 0, .int .i64 0, .int .i64 0, .int .i64 0, .int .i64 0, .int .i64 0, .int .i64 0, .int .i64 0, .int .i64 0, .int .i64 0, .int .i64 0, .int .i64 0, .int .i64 0, .int .i64 0, .int .i64 0, .int .i64 0, .int .i64 0] 27)).setRow w3.heap.size (arrv 24 (resS Q X 0)))) := by
    have z := S2.out.2.1.lt
    have z2 := B3.out.size
    have z3 := S2.out.2.2.2
    have z4 := S2.out.1.size
    have b1 : Blk (w3.alloc (.cells #[.int .i64 0, .int .i64 0, .int .i64 0, .int .i64 0, .int .i64 0, .int .i64 0, .int .i64 0, .int .i64 0, .int .i64 0, .int .i64 0, .int .i64 0, .int .i64 0, .int .i64 0, .int .i64 0, .int .i64 0, .int .i64 0, .int .i64 0, .int .i64 0, .int .i64 0, .int .i64 0, .int .i64 0, .int .i64 0, .int .i64 0, .int .i64 0] 27)) w3.heap.size 27 24 (fun _ => 0) := by rw [zvec24]; exact Blk.new _ _ _ _
    refine Lib.hid ⟨below_row ((S2.out.1.trans (B3.out.mono z4)).alloc (by omega) _) (by omega) _, ((S2.out.2.1.below B3.out).alloc _).row _ (by omega), ((S2.out.2.2.1.below B3.out).alloc _).setRow_other _ (by omega), b1.setRow _, z3, by omega⟩
  generalize (w3.alloc (.cells #[.int .i64 0, .int .i64 0, .int .i64 0, .int .i64 0, .int .i64 0, .int .i64 0, .int .i64 0, .int .i64 0, .int .i64 0, .int .i64 0, .int .i64 0, .int .i64 0, .int .i64 0, .int .i64 0, .int .i64 0, .int .i64 0, .int .i64 0, .int .i64 0, .int .i64 0, .int .i64 0, .int .i64 0, .int .i64 0, .int .i64 0, .int .i64 0] 27)).setRow w3.heap.size (arrv 24 (resS Q X 0)) = W4 at *
  obtain ⟨eb, heb⟩ : ∃ x, w3.heap.size = x := ⟨_, rfl⟩
  rw [heb] at S4 ⊢
  clear heb B3 EW S2 k0 k1 k2 k3 Q2 hq
  go_wp2_with fail
  go_loopw [12] (fun i wr => ∃ k : Nat, k ≤ 3 ∧ i = .int .i64 k ∧ (∀ j, j < k → -274877906944 ≤ X j ∧ X j ≤ 274877906944) ∧ Hid (ReR bc eb X (resS Q X k) w wr)) (fun i _ => 3 - (intOf i).toNat)
  case atStart => exact ⟨0, by omega, rfl, fun j hj => by omega, S4⟩
  case round =>
    obtain ⟨k, hk, rfl, hX, R⟩ := hrel
    have HX := Lib.hid hX
    clear S4 hX
    by_cases hlt : k < 3
    · obtain rfl | rfl | rfl : k = 0 ∨ k = 1 ∨ k = 2 := by omega
      · have xc := R.out.v.cell (i := 0) (by decide)
        have NX := Lib.hid (show arrv 24 (withF (resS Q X 0) 4 1 (fun _ => X 0)) = arrv 24 (resS Q X 1) from arrv_congr fun i _ => resS_next Q X 0 i)
        obtain ⟨x, hx⟩ : ∃ x, X 0 = x := ⟨_, rfl⟩
        obtain ⟨SS, hSS⟩ : ∃ f, resS Q X 0 = f := ⟨_, rfl⟩
        obtain ⟨TT, hTT⟩ : ∃ f, resS Q X 1 = f := ⟨_, rfl⟩
        rw [hx] at xc NX
        rw [hSS] at R NX
        rw [hTT] at NX
        have HV := Lib.hid hx
        have HT0 := Lib.hid hTT
        clear hx hSS hTT
        by_cases r1 : x < -274877906944
        · have d1 : decide (x < -274877906944) = true := by simpa using r1
          clear r1
          go_wp2_with fail
          go_ret
          exact ⟨rfl, R.out.below⟩
        · have d1 : decide (x < -274877906944) = false := by simpa using r1
          by_cases r2 : 274877906944 < x
          · have d2 : decide (274877906944 < x) = true := by simpa using r2
            clear r1 r2
            go_wp2_with fail
            go_ret
            exact ⟨rfl, R.out.below⟩
          · have d2 : decide (274877906944 < x) = false := by simpa using r2
            have HR := Lib.hid (And.intro r1 r2)
            clear r1 r2
            go_upto_region 13 with fail
            have HS := Lib.hid (R.out.down (Below.drew (Below.refl _ _)))
            refine wp_region_M (fun w' => Blk w' eb 27 24 SS ∧ w'.cell? ⟨w.heap.size, 0, none⟩ = some (.int .i64 x)) 8 (by kernel_rfl) ?_ (fun hHeld => ?_)
            · exact ⟨HS.out.s, (HS.out.v.cell (i := 0) (by decide)).trans (congrArg (fun z => some (Go.Value.int .i64 z)) HV.out)⟩
            refine wpAnyM_take 0 (v := ?_) rfl (by kernel_rfl) (fun _ _ _ h => h) (Or.inl ⟨by rfl, ?_⟩) (by assumption) ?_
            rotate_left
            · (intro wx hSw; refine Eq.trans (run_load_row 27 (.tmp 11) (by rfl) (eb) (by rfl) _ _ _ _ (hSw.1) Try.underlying27 rfl (ist.trans (by rw [arrv_size]))) ?_; with_reducible rfl)
            (try simp only [Act.put, nA, nB, nC])
            refine wpAnyM_take 1 (v := ?_) rfl (by kernel_rfl) (fun _ _ _ h => h) (Or.inl ⟨by rfl, ?_⟩) (by assumption) ?_
            rotate_left
            · (intro wx hSw; (try dsimp only at hSw); go_simp; (try with_reducible rfl))
            (try simp only [Act.put, nA, nB, nC])
            refine wpAnyM_take 2 (v := ?_) rfl (by kernel_rfl) (fun _ _ _ h => h) (Or.inl ⟨by rfl, ?_⟩) (by assumption) ?_
            rotate_left
            · (intro wx hSw; (try dsimp only at hSw); go_simp; (try with_reducible rfl))
            (try simp only [Act.put, nA, nB, nC])
            refine wpAnyM_take 3 (v := ?_) rfl (by kernel_rfl) (fun _ _ _ h => h) (Or.inl ⟨by rfl, ?_⟩) (by assumption) ?_
            rotate_left
            · (intro wx hSw; (try dsimp only at hSw); go_simp; (try with_reducible rfl))
            (try simp only [Act.put, nA, nB, nC])
            refine wpAnyM_take 4 (v := ?_) rfl (by kernel_rfl) (fun _ _ _ h => h) (Or.inl ⟨by rfl, ?_⟩) (by assumption) ?_
            rotate_left
            · (intro wx hSw; (try dsimp only at hSw); go_simp; (try with_reducible rfl))
            (try simp only [Act.put, nA, nB, nC])
            refine wpAnyM_take 5 (v := ?_) rfl (by kernel_rfl) (fun _ _ _ h => h) (Or.inl ⟨by rfl, ?_⟩) (by assumption) ?_
            rotate_left
            · (intro wx hSw; (try dsimp only at hSw); go_simp; (try with_reducible rfl))
            (try simp only [Act.put, nA, nB, nC])
            refine wpAnyM_oneS 6 rfl (by kernel_rfl) (fun K hK => ?_)
            go_simp; have HL := Lib.hid (show Slc (wr.drew.alloc (.cells #[.int .i64 x] 2)) (some ⟨wr.drew.heap.size, 0, none⟩) 1 (fun _ => x) from (by intro i hi; obtain rfl : i = 0 := (by omega); exact ⟨_, _, rfl, by simp [go_sem]⟩)); have HU := Lib.hid (HS.out.down ((Below.refl _ _).alloc (Nat.le_refl _) (.cells #[.int .i64 x] 2))); clear HS; have HS := HU; clear HU
            clear hHeld
            refine hK.out _ _ ?_ (fun hHeld => ?_)
            · exact ⟨HS.out.s, (HS.out.v.cell (i := 0) (by decide)).trans (congrArg (fun z => some (Go.Value.int .i64 z)) HV.out)⟩
            clear hK K
            (try simp only [Act.put, nA, nB, nC])
            refine wpAnyM_oneS 7 rfl (by kernel_rfl) (fun K hK => ?_)
            go_simp
            (refine (swith_any SS 4 (some ⟨wr.drew.heap.size, 0, none⟩) 1 1 (fun _ => x) _ (by decide) (by decide) (by decide) HL.out).mono ?_); (rw [NX.out]); rintro e w5 ⟨rfl, hb⟩; have HU := Lib.hid (HS.out.down hb); clear HS hb HL; have HS := HU; clear HU
            (try dsimp only)
            (try simp only [Act.put, nA, nB, nC])
            clear hHeld
            refine hK.out _ _ ?_ (fun hHeld => ?_)
            · exact ⟨HS.out.s, (HS.out.v.cell (i := 0) (by decide)).trans (congrArg (fun z => some (Go.Value.int .i64 z)) HV.out)⟩
            clear hK K
            (try simp only [Act.put, nA, nB, nC])
            refine wpAnyM_doneL 8 rfl (by kernel_rfl) (by rfl) (by kernel_rfl) (run_store_row 27 (.tmp 11) (.tmp 71) rfl _ rfl rfl HS.out.s ist) ?_
            (try simp only [Act.put, nA, nB, nC])
            refine wpAnyM_done (by kernel_rfl) ?_ _
            have R2 := Lib.hid (HS.out.row TT)
            generalize w5.setRow eb (arrv 24 TT) = W6 at *
            clear HS NX R xc
            go_wp2_with fail
            go_roundw
            case rel => exact ⟨1, by omega, by go_num, fun j hj => by
              by_cases h : j < 0
              · exact HX.out j h
              · have := HR.out; have hv := HV.out; rw [show j = 0 by omega, hv]; omega, by rw [HT0.out]; exact R2⟩
            case measure => simp [intOf]
      · have xc := R.out.v.cell (i := 1) (by decide)
        have NX := Lib.hid (show arrv 24 (withF (resS Q X 1) 5 1 (fun _ => X 1)) = arrv 24 (resS Q X 2) from arrv_congr fun i _ => resS_next Q X 1 i)
        obtain ⟨x, hx⟩ : ∃ x, X 1 = x := ⟨_, rfl⟩
        obtain ⟨SS, hSS⟩ : ∃ f, resS Q X 1 = f := ⟨_, rfl⟩
        obtain ⟨TT, hTT⟩ : ∃ f, resS Q X 2 = f := ⟨_, rfl⟩
        rw [hx] at xc NX
        rw [hSS] at R NX
        rw [hTT] at NX
        have HV := Lib.hid hx
        have HT0 := Lib.hid hTT
        clear hx hSS hTT
        by_cases r1 : x < -274877906944
        · have d1 : decide (x < -274877906944) = true := by simpa using r1
          clear r1
          go_wp2_with fail
          go_ret
          exact ⟨rfl, R.out.below⟩
        · have d1 : decide (x < -274877906944) = false := by simpa using r1
          by_cases r2 : 274877906944 < x
          · have d2 : decide (274877906944 < x) = true := by simpa using r2
            clear r1 r2
            go_wp2_with fail
            go_ret
            exact ⟨rfl, R.out.below⟩
          · have d2 : decide (274877906944 < x) = false := by simpa using r2
            have HR := Lib.hid (And.intro r1 r2)
            clear r1 r2
            go_upto_region 13 with fail
            have HS := Lib.hid (R.out.down (Below.drew (Below.refl _ _)))
            refine wp_region_M (fun w' => Blk w' eb 27 24 SS ∧ w'.cell? ⟨w.heap.size, 1, none⟩ = some (.int .i64 x)) 8 (by kernel_rfl) ?_ (fun hHeld => ?_)
            · exact ⟨HS.out.s, (HS.out.v.cell (i := 1) (by decide)).trans (congrArg (fun z => some (Go.Value.int .i64 z)) HV.out)⟩
            refine wpAnyM_take 0 (v := ?_) rfl (by kernel_rfl) (fun _ _ _ h => h) (Or.inl ⟨by rfl, ?_⟩) (by assumption) ?_
            rotate_left
            · (intro wx hSw; refine Eq.trans (run_load_row 27 (.tmp 11) (by rfl) (eb) (by rfl) _ _ _ _ (hSw.1) Try.underlying27 rfl (ist.trans (by rw [arrv_size]))) ?_; with_reducible rfl)
            (try simp only [Act.put, nA, nB, nC])
            refine wpAnyM_take 1 (v := ?_) rfl (by kernel_rfl) (fun _ _ _ h => h) (Or.inl ⟨by rfl, ?_⟩) (by assumption) ?_
            rotate_left
            · (intro wx hSw; (try dsimp only at hSw); go_simp; (try with_reducible rfl))
            (try simp only [Act.put, nA, nB, nC])
            refine wpAnyM_take 2 (v := ?_) rfl (by kernel_rfl) (fun _ _ _ h => h) (Or.inl ⟨by rfl, ?_⟩) (by assumption) ?_
            rotate_left
            · (intro wx hSw; (try dsimp only at hSw); go_simp; (try with_reducible rfl))
            (try simp only [Act.put, nA, nB, nC])
            refine wpAnyM_take 3 (v := ?_) rfl (by kernel_rfl) (fun _ _ _ h => h) (Or.inl ⟨by rfl, ?_⟩) (by assumption) ?_
            rotate_left
            · (intro wx hSw; (try dsimp only at hSw); go_simp; (try with_reducible rfl))
            (try simp only [Act.put, nA, nB, nC])
            refine wpAnyM_take 4 (v := ?_) rfl (by kernel_rfl) (fun _ _ _ h => h) (Or.inl ⟨by rfl, ?_⟩) (by assumption) ?_
            rotate_left
            · (intro wx hSw; (try dsimp only at hSw); go_simp; (try with_reducible rfl))
            (try simp only [Act.put, nA, nB, nC])
            refine wpAnyM_take 5 (v := ?_) rfl (by kernel_rfl) (fun _ _ _ h => h) (Or.inl ⟨by rfl, ?_⟩) (by assumption) ?_
            rotate_left
            · (intro wx hSw; (try dsimp only at hSw); go_simp; (try with_reducible rfl))
            (try simp only [Act.put, nA, nB, nC])
            refine wpAnyM_oneS 6 rfl (by kernel_rfl) (fun K hK => ?_)
            go_simp; have HL := Lib.hid (show Slc (wr.drew.alloc (.cells #[.int .i64 x] 2)) (some ⟨wr.drew.heap.size, 0, none⟩) 1 (fun _ => x) from (by intro i hi; obtain rfl : i = 0 := (by omega); exact ⟨_, _, rfl, by simp [go_sem]⟩)); have HU := Lib.hid (HS.out.down ((Below.refl _ _).alloc (Nat.le_refl _) (.cells #[.int .i64 x] 2))); clear HS; have HS := HU; clear HU
            clear hHeld
            refine hK.out _ _ ?_ (fun hHeld => ?_)
            · exact ⟨HS.out.s, (HS.out.v.cell (i := 1) (by decide)).trans (congrArg (fun z => some (Go.Value.int .i64 z)) HV.out)⟩
            clear hK K
            (try simp only [Act.put, nA, nB, nC])
            refine wpAnyM_oneS 7 rfl (by kernel_rfl) (fun K hK => ?_)
            go_simp
            (refine (swith_any SS 5 (some ⟨wr.drew.heap.size, 0, none⟩) 1 1 (fun _ => x) _ (by decide) (by decide) (by decide) HL.out).mono ?_); (rw [NX.out]); rintro e w5 ⟨rfl, hb⟩; have HU := Lib.hid (HS.out.down hb); clear HS hb HL; have HS := HU; clear HU
            (try dsimp only)
            (try simp only [Act.put, nA, nB, nC])
            clear hHeld
            refine hK.out _ _ ?_ (fun hHeld => ?_)
            · exact ⟨HS.out.s, (HS.out.v.cell (i := 1) (by decide)).trans (congrArg (fun z => some (Go.Value.int .i64 z)) HV.out)⟩
            clear hK K
            (try simp only [Act.put, nA, nB, nC])
            refine wpAnyM_doneL 8 rfl (by kernel_rfl) (by rfl) (by kernel_rfl) (run_store_row 27 (.tmp 11) (.tmp 71) rfl _ rfl rfl HS.out.s ist) ?_
            (try simp only [Act.put, nA, nB, nC])
            refine wpAnyM_done (by kernel_rfl) ?_ _
            have R2 := Lib.hid (HS.out.row TT)
            generalize w5.setRow eb (arrv 24 TT) = W6 at *
            clear HS NX R xc
            go_wp2_with fail
            go_roundw
            case rel => exact ⟨2, by omega, by go_num, fun j hj => by
              by_cases h : j < 1
              · exact HX.out j h
              · have := HR.out; have hv := HV.out; rw [show j = 1 by omega, hv]; omega, by rw [HT0.out]; exact R2⟩
            case measure => simp [intOf]
      · have xc := R.out.v.cell (i := 2) (by decide)
        have NX := Lib.hid (show arrv 24 (withF (resS Q X 2) 6 1 (fun _ => X 2)) = arrv 24 (resS Q X 3) from arrv_congr fun i _ => resS_next Q X 2 i)
        obtain ⟨x, hx⟩ : ∃ x, X 2 = x := ⟨_, rfl⟩
        obtain ⟨SS, hSS⟩ : ∃ f, resS Q X 2 = f := ⟨_, rfl⟩
        obtain ⟨TT, hTT⟩ : ∃ f, resS Q X 3 = f := ⟨_, rfl⟩
        rw [hx] at xc NX
        rw [hSS] at R NX
        rw [hTT] at NX
        have HV := Lib.hid hx
        have HT0 := Lib.hid hTT
        clear hx hSS hTT
        by_cases r1 : x < -274877906944
        · have d1 : decide (x < -274877906944) = true := by simpa using r1
          clear r1
          go_wp2_with fail
          go_ret
          exact ⟨rfl, R.out.below⟩
        · have d1 : decide (x < -274877906944) = false := by simpa using r1
          by_cases r2 : 274877906944 < x
          · have d2 : decide (274877906944 < x) = true := by simpa using r2
            clear r1 r2
            go_wp2_with fail
            go_ret
            exact ⟨rfl, R.out.below⟩
          · have d2 : decide (274877906944 < x) = false := by simpa using r2
            have HR := Lib.hid (And.intro r1 r2)
            clear r1 r2
            go_upto_region 13 with fail
            have HS := Lib.hid (R.out.down (Below.drew (Below.refl _ _)))
            refine wp_region_M (fun w' => Blk w' eb 27 24 SS ∧ w'.cell? ⟨w.heap.size, 2, none⟩ = some (.int .i64 x)) 8 (by kernel_rfl) ?_ (fun hHeld => ?_)
            · exact ⟨HS.out.s, (HS.out.v.cell (i := 2) (by decide)).trans (congrArg (fun z => some (Go.Value.int .i64 z)) HV.out)⟩
            refine wpAnyM_take 0 (v := ?_) rfl (by kernel_rfl) (fun _ _ _ h => h) (Or.inl ⟨by rfl, ?_⟩) (by assumption) ?_
            rotate_left
            · (intro wx hSw; refine Eq.trans (run_load_row 27 (.tmp 11) (by rfl) (eb) (by rfl) _ _ _ _ (hSw.1) Try.underlying27 rfl (ist.trans (by rw [arrv_size]))) ?_; with_reducible rfl)
            (try simp only [Act.put, nA, nB, nC])
            refine wpAnyM_take 1 (v := ?_) rfl (by kernel_rfl) (fun _ _ _ h => h) (Or.inl ⟨by rfl, ?_⟩) (by assumption) ?_
            rotate_left
            · (intro wx hSw; (try dsimp only at hSw); go_simp; (try with_reducible rfl))
            (try simp only [Act.put, nA, nB, nC])
            refine wpAnyM_take 2 (v := ?_) rfl (by kernel_rfl) (fun _ _ _ h => h) (Or.inl ⟨by rfl, ?_⟩) (by assumption) ?_
            rotate_left
            · (intro wx hSw; (try dsimp only at hSw); go_simp; (try with_reducible rfl))
            (try simp only [Act.put, nA, nB, nC])
            refine wpAnyM_take 3 (v := ?_) rfl (by kernel_rfl) (fun _ _ _ h => h) (Or.inl ⟨by rfl, ?_⟩) (by assumption) ?_
            rotate_left
            · (intro wx hSw; (try dsimp only at hSw); go_simp; (try with_reducible rfl))
            (try simp only [Act.put, nA, nB, nC])
            refine wpAnyM_take 4 (v := ?_) rfl (by kernel_rfl) (fun _ _ _ h => h) (Or.inl ⟨by rfl, ?_⟩) (by assumption) ?_
            rotate_left
            · (intro wx hSw; (try dsimp only at hSw); go_simp; (try with_reducible rfl))
            (try simp only [Act.put, nA, nB, nC])
            refine wpAnyM_take 5 (v := ?_) rfl (by kernel_rfl) (fun _ _ _ h => h) (Or.inl ⟨by rfl, ?_⟩) (by assumption) ?_
            rotate_left
            · (intro wx hSw; (try dsimp only at hSw); go_simp; (try with_reducible rfl))
            (try simp only [Act.put, nA, nB, nC])
            refine wpAnyM_oneS 6 rfl (by kernel_rfl) (fun K hK => ?_)
            go_simp; have HL := Lib.hid (show Slc (wr.drew.alloc (.cells #[.int .i64 x] 2)) (some ⟨wr.drew.heap.size, 0, none⟩) 1 (fun _ => x) from (by intro i hi; obtain rfl : i = 0 := (by omega); exact ⟨_, _, rfl, by simp [go_sem]⟩)); have HU := Lib.hid (HS.out.down ((Below.refl _ _).alloc (Nat.le_refl _) (.cells #[.int .i64 x] 2))); clear HS; have HS := HU; clear HU
            clear hHeld
            refine hK.out _ _ ?_ (fun hHeld => ?_)
            · exact ⟨HS.out.s, (HS.out.v.cell (i := 2) (by decide)).trans (congrArg (fun z => some (Go.Value.int .i64 z)) HV.out)⟩
            clear hK K
            (try simp only [Act.put, nA, nB, nC])
            refine wpAnyM_oneS 7 rfl (by kernel_rfl) (fun K hK => ?_)
            go_simp
            (refine (swith_any SS 6 (some ⟨wr.drew.heap.size, 0, none⟩) 1 1 (fun _ => x) _ (by decide) (by decide) (by decide) HL.out).mono ?_); (rw [NX.out]); rintro e w5 ⟨rfl, hb⟩; have HU := Lib.hid (HS.out.down hb); clear HS hb HL; have HS := HU; clear HU
            (try dsimp only)
            (try simp only [Act.put, nA, nB, nC])
            clear hHeld
            refine hK.out _ _ ?_ (fun hHeld => ?_)
            · exact ⟨HS.out.s, (HS.out.v.cell (i := 2) (by decide)).trans (congrArg (fun z => some (Go.Value.int .i64 z)) HV.out)⟩
            clear hK K
            (try simp only [Act.put, nA, nB, nC])
            refine wpAnyM_doneL 8 rfl (by kernel_rfl) (by rfl) (by kernel_rfl) (run_store_row 27 (.tmp 11) (.tmp 71) rfl _ rfl rfl HS.out.s ist) ?_
            (try simp only [Act.put, nA, nB, nC])
            refine wpAnyM_done (by kernel_rfl) ?_ _
            have R2 := Lib.hid (HS.out.row TT)
            generalize w5.setRow eb (arrv 24 TT) = W6 at *
            clear HS NX R xc
            go_wp2_with fail
            go_roundw
            case rel => exact ⟨3, by omega, by go_num, fun j hj => by
              by_cases h : j < 2
              · exact HX.out j h
              · have := HR.out; have hv := HV.out; rw [show j = 2 by omega, hv]; omega, by rw [HT0.out]; exact R2⟩
            case measure => simp [intOf]
    · obtain rfl : k = 3 := by omega
      have SI : Hid (RsI (mulV (secV us) 536870912 30) X 0 (resS Q X 3)) := Lib.hid (by rw [← HQ.out]; exact resS_start HX.out)
      rw [show ((3 : Nat) : Int) = (3 : Int) from rfl]
      have t3 : decide ((3 : Int) < 3) = false := by decide
      have RN := Lib.hid (fun (k : Nat) (S : Nat → Int) (hk : k < m) (s : RsI (mulV (secV us) 536870912 30) X k S) => rs_next HI.out.1 HI.out.2.1 (by have := HI.out.2.2; omega) HX.out s)
      have RD := Lib.hid (fun (S : Nat → Int) (s : RsI (mulV (secV us) 536870912 30) X m S) => rs_end HI.out.1 HI.out.2.1 HI.out.2.2 HX.out s)
      obtain ⟨hf, hhf⟩ : ∃ x, mulV (secV us) 536870912 30 = x := ⟨_, rfl⟩
      obtain ⟨U0, hU0⟩ : ∃ f, resS Q X 3 = f := ⟨_, rfl⟩
      rw [hhf] at SI RN RD
      rw [hU0] at SI R
      have TC := fun (c : Addr) (x : World) (k : x.cell? c = some (.bool false)) (f : x.frozen? c = false) => sec_any c false us x k f
      rw [(sec_bd HI.out.1 HI.out.2.1).2.2] at TC
      obtain ⟨dt, hdt⟩ : ∃ x, secV us = x := ⟨_, rfl⟩
      rw [hdt] at TC RD
      have TC := Lib.hid TC
      have HM := Lib.hid HI.out.2.2
      clear hhf hU0 HX HI HQ hdt
      go_wp2_with fail
      go_loopw [13] (fun i wr => ∃ k : Nat, k ≤ m ∧ i = .int .i64 k ∧ ∃ S, Hid (RsI hf X k S) ∧ Hid (ReR bc eb X S w wr)) (fun i _ => m - (intOf i).toNat)
      case atStart => exact ⟨0, by omega, rfl, U0, SI, R⟩
      case round =>
        obtain ⟨k, hk, rfl, S, SK, R⟩ := hrel
        clear SI
        by_cases hlt : k < m
        · have d1 : decide (k < m) = true := by simpa using hlt
          have d2 : decide ((k : Int) < (m : Int)) = true := by simp; omega
          have k0 : (0 : Int) ≤ (k : Int) := Int.natCast_nonneg _
          have km : (k : Int) < 50 := by have := HM.out; omega
          obtain ⟨T, hT, hH, ST⟩ := RN.out k S hlt SK.out
          have SC := fun (x : World) (a : x.cell? ⟨bc, 0, none⟩ = some (.bool false)) (f : x.frozen? ⟨bc, 0, none⟩ = false) => step_any2 ⟨bc, 0, none⟩ false S (stlF us) x a f
          rw [hT, hH, Bool.or_false] at SC
          have SC := Lib.hid SC
          have ST := Lib.hid ST
          clear hT hH SK
          go_upto_region 17 with fail
          have HS := Lib.hid (R.out.down (Below.drew (Below.refl _ _)))
          clear R
          refine wp_region_M (fun w' => Blk w' eb 27 24 S) 5 (by kernel_rfl) ?_ (fun hHeld => ?_)
          · exact HS.out.s
          refine wpAnyM_take 0 (v := ?_) rfl (by kernel_rfl) (fun _ _ _ h => h) (Or.inl ⟨by rfl, ?_⟩) (by assumption) ?_
          rotate_left
          · (intro wx hSw; (try dsimp only at hSw); go_simp; (try with_reducible rfl))
          (try simp only [Act.put, nA, nB, nC])
          refine wpAnyM_take 1 (v := ?_) rfl (by kernel_rfl) (fun _ _ _ h => h) (Or.inl ⟨by rfl, ?_⟩) (by assumption) ?_
          rotate_left
          · (intro wx hSw; refine Eq.trans (run_load_row 27 (.tmp 11) (by rfl) (eb) (by rfl) _ _ _ _ (hSw) Try.underlying27 rfl (ist.trans (by rw [arrv_size]))) ?_; with_reducible rfl)
          (try simp only [Act.put, nA, nB, nC])
          refine wpAnyM_take 2 (v := ?_) rfl (by kernel_rfl) (fun _ _ _ h => h) (Or.inl ⟨by rfl, ?_⟩) (by assumption) ?_
          rotate_left
          · (intro wx hSw; (try dsimp only at hSw); go_simp; (try with_reducible rfl))
          (try simp only [Act.put, nA, nB, nC])
          refine wpAnyM_oneS 3 rfl (by kernel_rfl) (fun K hK => ?_)
          go_simp
          (refine (still_any us _).mono ?_); rintro e w5 ⟨rfl, hb⟩; have HU := Lib.hid (HS.out.down hb); clear HS hb; have HS := HU; clear HU
          (try dsimp only)
          (try simp only [Act.put, nA, nB, nC])
          clear hHeld
          refine hK.out _ _ ?_ (fun hHeld => ?_)
          · exact HS.out.s
          clear hK K
          (try simp only [Act.put, nA, nB, nC])
          refine wpAnyM_oneS 4 rfl (by kernel_rfl) (fun K hK => ?_)
          go_simp
          (refine (SC.out _ HS.out.fl.cell HS.out.fl.free).mono ?_); rintro e w6 ⟨rfl, hu⟩; have HU := Lib.hid (HS.out.upd' hu); clear HS hu; have HS := HU; clear HU
          (try dsimp only)
          (try simp only [Act.put, nA, nB, nC])
          clear hHeld
          refine hK.out _ _ ?_ (fun hHeld => ?_)
          · exact HS.out.s
          clear hK K
          (try simp only [Act.put, nA, nB, nC])
          refine wpAnyM_doneL 5 rfl (by kernel_rfl) (by rfl) (by kernel_rfl) (run_store_row 27 (.tmp 11) (.tmp 81) rfl _ rfl rfl HS.out.s ist) ?_
          (try simp only [Act.put, nA, nB, nC])
          refine wpAnyM_done (by kernel_rfl) ?_ _
          have R2 := Lib.hid (HS.out.row T)
          generalize w6.setRow eb (arrv 24 T) = W6 at *
          clear HS
          go_wp2_with fail
          go_roundw
          case rel => exact ⟨k + 1, by omega, by go_num, T, ST, R2⟩
          case measure => simp [intOf]; omega
        · obtain rfl : k = m := by omega
          have d1 : decide (k < k) = false := by simp
          have d2 : decide ((k : Int) < (k : Int)) = false := by simp
          have RE := RD.out S SK.out
          have GC := fun (x : World) => sgood_any S x
          rw [SK.out.g] at GC
          have GC := Lib.hid GC
          have r0 := RE 0 (by decide)
          have MT := fun (x : World) (p : x.cell? ⟨bc, 0, none⟩ = some (.bool false)) (f : x.frozen? ⟨bc, 0, none⟩ = false) => fmul_any ⟨bc, 0, none⟩ false dt (k : Int) 0 x p f
          rw [r0.2.2.2.1, r0.2.2.2.2, Bool.or_false] at MT
          have RE : ∀ j, j < 3 → (-16384 ≤ S (4 + j) - X j ∧ S (4 + j) - X j ≤ 16384) ∧ (-65536 ≤ S (7 + j) - mulV (X j) (dt * (k : Int)) 30 ∧ S (7 + j) - mulV (X j) (dt * (k : Int)) 30 ≤ 65536) ∧ mulH (X j) (dt * (k : Int)) 30 = false := fun j hj => ⟨(RE j hj).1, (RE j hj).2.1, (RE j hj).2.2.1⟩
          obtain ⟨t, ht⟩ : ∃ t, dt * (k : Int) = t := ⟨_, rfl⟩
          rw [ht] at RE MT
          have RE := Lib.hid RE
          have MT := Lib.hid MT
          clear ht r0 SK RD RN
          go_wp2_with (first | (go_at_call 14; (refine (TC.out ⟨bc, 0, none⟩ _ R.out.fl.cell R.out.fl.free).mono ?_); rintro e w3 ⟨rfl, hu⟩; have R1 := Lib.hid (R.out.upd' hu); clear hu R) | (go_at_call 13; (refine (MT.out _ R1.out.fl.cell R1.out.fl.free).mono ?_); rintro e w4 ⟨rfl, hu⟩; have R2 := Lib.hid (R1.out.upd' hu); clear hu R1))
          go_loopw [15] (fun i wr => ∃ k : Nat, k ≤ 3 ∧ i = .int .i64 k ∧ Hid (ReR bc eb X S w wr)) (fun i _ => 3 - (intOf i).toNat)
          case atStart => exact ⟨0, by omega, rfl, R2⟩
          case round =>
            obtain ⟨k, hk, rfl, R⟩ := hrel
            clear R2 TC MT
            by_cases hlt : k < 3
            · obtain rfl | rfl | rfl : k = 0 ∨ k = 1 ∨ k = 2 := by omega
              · have b := RE.out 0 (by decide)
                have ca := R.out.s.cell (i := 4) (by decide)
                have cb := R.out.v.cell (i := 0) (by decide)
                have cd := R.out.s.cell (i := 7) (by decide)
                obtain ⟨s, hs⟩ : ∃ x, S 4 = x := ⟨_, rfl⟩
                obtain ⟨p, hp⟩ : ∃ x, S 7 = x := ⟨_, rfl⟩
                obtain ⟨x, hx⟩ : ∃ x, X 0 = x := ⟨_, rfl⟩
                simp only [show 4 + 0 = 4 from rfl, show 7 + 0 = 7 from rfl] at b
                rw [hs, hp, hx] at b
                rw [hs] at ca
                rw [hx] at cb
                rw [hp] at cd
                have MC := fun (W : World) (a : W.cell? ⟨bc, 0, none⟩ = some (.bool false)) (f : W.frozen? ⟨bc, 0, none⟩ = false) => fmul_any ⟨bc, 0, none⟩ false x t 30 W a f
                rw [b.2.2, Bool.or_false] at MC
                obtain ⟨q, hq⟩ : ∃ q, mulV x t 30 = q := ⟨_, rfl⟩
                rw [hq] at b MC
                have MC := Lib.hid MC
                have e1 : IntKind.i64.wrap (s - x) = s - x := IntWalk.i64_in _ (by omega)
                have e2 : IntKind.i64.wrap (p - q) = p - q := IntWalk.i64_in _ (by omega)
                obtain ⟨d, hd⟩ : ∃ d, s - x = d := ⟨_, rfl⟩
                obtain ⟨e, he⟩ : ∃ e, p - q = e := ⟨_, rfl⟩
                rw [hd] at b
                rw [he] at b
                have f1 : decide (16384 < d) = false := by simp; omega
                have f2 : decide (d < -16384) = false := by simp; omega
                have f3 : decide (65536 < e) = false := by simp; omega
                have f4 : decide (e < -65536) = false := by simp; omega
                have E1 := Lib.hid (e1.trans hd)
                have E2 := Lib.hid (e2.trans he)
                have HP := Lib.hid hp
                have HXk := Lib.hid hx
                clear b hs hp hx hq hd he cd e1 e2
                go_upto_region 22 with fail
                have HS := Lib.hid (R.out.down (Below.drew (Below.refl _ _)))
                clear R
                refine wp_region_M (fun w' => w'.cell? ⟨eb, 4, none⟩ = some (.int .i64 s) ∧ w'.cell? ⟨w.heap.size, 0, none⟩ = some (.int .i64 x)) 8 (by kernel_rfl) ?_ (fun hHeld => ?_)
                · exact ⟨ca, cb⟩
                refine wpAnyM_take 0 (v := ?_) rfl (by kernel_rfl) (fun _ _ _ h => h) (Or.inl ⟨by rfl, ?_⟩) (by assumption) ?_
                rotate_left
                · (intro wx hSw; (try dsimp only at hSw); go_simp; (try with_reducible rfl))
                (try simp only [Act.put, nA, nB, nC])
                refine wpAnyM_take 1 (v := ?_) rfl (by kernel_rfl) (fun _ _ _ h => h) (Or.inl ⟨by rfl, ?_⟩) (by assumption) ?_
                rotate_left
                · (intro wx hSw; (try dsimp only at hSw); go_simp; (try with_reducible rfl))
                (try simp only [Act.put, nA, nB, nC])
                refine wpAnyM_take 2 (v := ?_) rfl (by kernel_rfl) (fun _ _ _ h => h) (Or.inl ⟨by rfl, ?_⟩) (by assumption) ?_
                rotate_left
                · (intro wx hSw; (try dsimp only at hSw); go_simp; rw [show IntKind.i64.wrap 4 = 4 from IntWalk.i64_in _ (by omega)]; go_simp; (try with_reducible rfl))
                (try simp only [Act.put, nA, nB, nC])
                refine wpAnyM_take 3 (v := ?_) rfl (by kernel_rfl) (fun _ _ _ h => h) (Or.inl ⟨by rfl, ?_⟩) (by assumption) ?_
                rotate_left
                · (intro wx hSw; (try dsimp only at hSw); go_simp; (try with_reducible rfl))
                (try simp only [Act.put, nA, nB, nC])
                refine wpAnyM_take 4 (v := ?_) rfl (by kernel_rfl) (fun _ _ _ h => h) (Or.inl ⟨by rfl, ?_⟩) (by assumption) ?_
                rotate_left
                · (intro wx hSw; (try dsimp only at hSw); go_simp; (try with_reducible rfl))
                (try simp only [Act.put, nA, nB, nC])
                refine wpAnyM_take 5 (v := ?_) rfl (by kernel_rfl) (fun _ _ _ h => h) (Or.inl ⟨by rfl, ?_⟩) (by assumption) ?_
                rotate_left
                · (intro wx hSw; (try dsimp only at hSw); go_simp; (try with_reducible rfl))
                (try simp only [Act.put, nA, nB, nC])
                refine wpAnyM_take 6 (v := ?_) rfl (by kernel_rfl) (fun _ _ _ h => h) (Or.inl ⟨by rfl, ?_⟩) (by assumption) ?_
                rotate_left
                · (intro wx hSw; (try dsimp only at hSw); go_simp; (try with_reducible rfl))
                (try simp only [Act.put, nA, nB, nC])
                refine wpAnyM_take 7 (v := ?_) rfl (by kernel_rfl) (fun _ _ _ h => h) (Or.inl ⟨by rfl, ?_⟩) (by assumption) ?_
                rotate_left
                · (intro wx hSw; (try dsimp only at hSw); go_simp; (try rw [E1.out]); (try with_reducible rfl))
                (try simp only [Act.put, nA, nB, nC])
                refine wpAnyM_one 8 rfl (by kernel_rfl) (fun K hK => ?_)
                go_simp
                refine hK.out _ _ (.inl (by kernel_rfl)) (fun _ => ?_)
                clear hK K
                (try simp only [Act.put, nA, nB, nC])
                refine wpAnyM_done (by kernel_rfl) ?_ _
                go_upto_region 23 with fail
                have HT := Lib.hid (HS.out.down (Below.drew (Below.refl _ _)))
                clear HS
                have HS := HT
                clear HT
                refine wp_region_M (fun w' => w'.cell? ⟨eb, 7, none⟩ = some (.int .i64 p) ∧ w'.cell? ⟨w.heap.size, 0, none⟩ = some (.int .i64 x)) 11 (by kernel_rfl) ?_ (fun hHeld => ?_)
                · exact ⟨(HS.out.s.cell (i := 7) (by decide)).trans (congrArg (fun z => some (Go.Value.int .i64 z)) HP.out), (HS.out.v.cell (i := 0) (by decide)).trans (congrArg (fun z => some (Go.Value.int .i64 z)) HXk.out)⟩
                refine wpAnyM_take 0 (v := ?_) rfl (by kernel_rfl) (fun _ _ _ h => h) (Or.inl ⟨by rfl, ?_⟩) (by assumption) ?_
                rotate_left
                · (intro wx hSw; (try dsimp only at hSw); go_simp; (try with_reducible rfl))
                (try simp only [Act.put, nA, nB, nC])
                refine wpAnyM_take 1 (v := ?_) rfl (by kernel_rfl) (fun _ _ _ h => h) (Or.inl ⟨by rfl, ?_⟩) (by assumption) ?_
                rotate_left
                · (intro wx hSw; (try dsimp only at hSw); go_simp; (try with_reducible rfl))
                (try simp only [Act.put, nA, nB, nC])
                refine wpAnyM_take 2 (v := ?_) rfl (by kernel_rfl) (fun _ _ _ h => h) (Or.inl ⟨by rfl, ?_⟩) (by assumption) ?_
                rotate_left
                · (intro wx hSw; (try dsimp only at hSw); go_simp; rw [show IntKind.i64.wrap 7 = 7 from IntWalk.i64_in _ (by omega)]; go_simp; (try with_reducible rfl))
                (try simp only [Act.put, nA, nB, nC])
                refine wpAnyM_take 3 (v := ?_) rfl (by kernel_rfl) (fun _ _ _ h => h) (Or.inl ⟨by rfl, ?_⟩) (by assumption) ?_
                rotate_left
                · (intro wx hSw; (try dsimp only at hSw); go_simp; (try with_reducible rfl))
                (try simp only [Act.put, nA, nB, nC])
                refine wpAnyM_take 4 (v := ?_) rfl (by kernel_rfl) (fun _ _ _ h => h) (Or.inl ⟨by rfl, ?_⟩) (by assumption) ?_
                rotate_left
                · (intro wx hSw; (try dsimp only at hSw); go_simp; (try with_reducible rfl))
                (try simp only [Act.put, nA, nB, nC])
                refine wpAnyM_take 5 (v := ?_) rfl (by kernel_rfl) (fun _ _ _ h => h) (Or.inl ⟨by rfl, ?_⟩) (by assumption) ?_
                rotate_left
                · (intro wx hSw; (try dsimp only at hSw); go_simp; (try with_reducible rfl))
                (try simp only [Act.put, nA, nB, nC])
                refine wpAnyM_take 6 (v := ?_) rfl (by kernel_rfl) (fun _ _ _ h => h) (Or.inl ⟨by rfl, ?_⟩) (by assumption) ?_
                rotate_left
                · (intro wx hSw; (try dsimp only at hSw); go_simp; (try with_reducible rfl))
                (try simp only [Act.put, nA, nB, nC])
                refine wpAnyM_take 7 (v := ?_) rfl (by kernel_rfl) (fun _ _ _ h => h) (Or.inl ⟨by rfl, ?_⟩) (by assumption) ?_
                rotate_left
                · (intro wx hSw; (try dsimp only at hSw); go_simp; (try with_reducible rfl))
                (try simp only [Act.put, nA, nB, nC])
                refine wpAnyM_take 8 (v := ?_) rfl (by kernel_rfl) (fun _ _ _ h => h) (Or.inl ⟨by rfl, ?_⟩) (by assumption) ?_
                rotate_left
                · (intro wx hSw; (try dsimp only at hSw); go_simp; (try with_reducible rfl))
                (try simp only [Act.put, nA, nB, nC])
                refine wpAnyM_oneS 9 rfl (by kernel_rfl) (fun K hK => ?_)
                go_simp
                (refine (MC.out _ HS.out.fl.cell HS.out.fl.free).mono ?_); rintro e w8 ⟨rfl, hu⟩; have HT := Lib.hid (HS.out.upd' hu); clear HS hu; have HS := HT; clear HT
                (try dsimp only)
                (try simp only [Act.put, nA, nB, nC])
                clear hHeld
                refine hK.out _ _ ?_ (fun hHeld => ?_)
                · exact ⟨(HS.out.s.cell (i := 7) (by decide)).trans (congrArg (fun z => some (Go.Value.int .i64 z)) HP.out), (HS.out.v.cell (i := 0) (by decide)).trans (congrArg (fun z => some (Go.Value.int .i64 z)) HXk.out)⟩
                clear hK K
                (try simp only [Act.put, nA, nB, nC])
                refine wpAnyM_take 10 (v := ?_) rfl (by kernel_rfl) (fun _ _ _ h => h) (Or.inl ⟨by rfl, ?_⟩) (by assumption) ?_
                rotate_left
                · (intro wx hSw; (try dsimp only at hSw); go_simp; (try rw [E2.out]); (try with_reducible rfl))
                (try simp only [Act.put, nA, nB, nC])
                refine wpAnyM_one 11 rfl (by kernel_rfl) (fun K hK => ?_)
                go_simp
                refine hK.out _ _ (.inl (by kernel_rfl)) (fun _ => ?_)
                clear hK K
                (try simp only [Act.put, nA, nB, nC])
                refine wpAnyM_done (by kernel_rfl) ?_ _
                go_upto_region 24 with fail
                go_wp2_with fail
                go_roundw
                case rel => exact ⟨1, by omega, by go_num, HS⟩
                case measure => simp [intOf]
              · have b := RE.out 1 (by decide)
                have ca := R.out.s.cell (i := 5) (by decide)
                have cb := R.out.v.cell (i := 1) (by decide)
                have cd := R.out.s.cell (i := 8) (by decide)
                obtain ⟨s, hs⟩ : ∃ x, S 5 = x := ⟨_, rfl⟩
                obtain ⟨p, hp⟩ : ∃ x, S 8 = x := ⟨_, rfl⟩
                obtain ⟨x, hx⟩ : ∃ x, X 1 = x := ⟨_, rfl⟩
                simp only [show 4 + 1 = 5 from rfl, show 7 + 1 = 8 from rfl] at b
                rw [hs, hp, hx] at b
                rw [hs] at ca
                rw [hx] at cb
                rw [hp] at cd
                have MC := fun (W : World) (a : W.cell? ⟨bc, 0, none⟩ = some (.bool false)) (f : W.frozen? ⟨bc, 0, none⟩ = false) => fmul_any ⟨bc, 0, none⟩ false x t 30 W a f
                rw [b.2.2, Bool.or_false] at MC
                obtain ⟨q, hq⟩ : ∃ q, mulV x t 30 = q := ⟨_, rfl⟩
                rw [hq] at b MC
                have MC := Lib.hid MC
                have e1 : IntKind.i64.wrap (s - x) = s - x := IntWalk.i64_in _ (by omega)
                have e2 : IntKind.i64.wrap (p - q) = p - q := IntWalk.i64_in _ (by omega)
                obtain ⟨d, hd⟩ : ∃ d, s - x = d := ⟨_, rfl⟩
                obtain ⟨e, he⟩ : ∃ e, p - q = e := ⟨_, rfl⟩
                rw [hd] at b
                rw [he] at b
                have f1 : decide (16384 < d) = false := by simp; omega
                have f2 : decide (d < -16384) = false := by simp; omega
                have f3 : decide (65536 < e) = false := by simp; omega
                have f4 : decide (e < -65536) = false := by simp; omega
                have E1 := Lib.hid (e1.trans hd)
                have E2 := Lib.hid (e2.trans he)
                have HP := Lib.hid hp
                have HXk := Lib.hid hx
                clear b hs hp hx hq hd he cd e1 e2
                go_upto_region 22 with fail
                have HS := Lib.hid (R.out.down (Below.drew (Below.refl _ _)))
                clear R
                refine wp_region_M (fun w' => w'.cell? ⟨eb, 5, none⟩ = some (.int .i64 s) ∧ w'.cell? ⟨w.heap.size, 1, none⟩ = some (.int .i64 x)) 8 (by kernel_rfl) ?_ (fun hHeld => ?_)
                · exact ⟨ca, cb⟩
                refine wpAnyM_take 0 (v := ?_) rfl (by kernel_rfl) (fun _ _ _ h => h) (Or.inl ⟨by rfl, ?_⟩) (by assumption) ?_
                rotate_left
                · (intro wx hSw; (try dsimp only at hSw); go_simp; (try with_reducible rfl))
                (try simp only [Act.put, nA, nB, nC])
                refine wpAnyM_take 1 (v := ?_) rfl (by kernel_rfl) (fun _ _ _ h => h) (Or.inl ⟨by rfl, ?_⟩) (by assumption) ?_
                rotate_left
                · (intro wx hSw; (try dsimp only at hSw); go_simp; (try with_reducible rfl))
                (try simp only [Act.put, nA, nB, nC])
                refine wpAnyM_take 2 (v := ?_) rfl (by kernel_rfl) (fun _ _ _ h => h) (Or.inl ⟨by rfl, ?_⟩) (by assumption) ?_
                rotate_left
                · (intro wx hSw; (try dsimp only at hSw); go_simp; rw [show IntKind.i64.wrap 5 = 5 from IntWalk.i64_in _ (by omega)]; go_simp; (try with_reducible rfl))
                (try simp only [Act.put, nA, nB, nC])
                refine wpAnyM_take 3 (v := ?_) rfl (by kernel_rfl) (fun _ _ _ h => h) (Or.inl ⟨by rfl, ?_⟩) (by assumption) ?_
                rotate_left
                · (intro wx hSw; (try dsimp only at hSw); go_simp; (try with_reducible rfl))
                (try simp only [Act.put, nA, nB, nC])
                refine wpAnyM_take 4 (v := ?_) rfl (by kernel_rfl) (fun _ _ _ h => h) (Or.inl ⟨by rfl, ?_⟩) (by assumption) ?_
                rotate_left
                · (intro wx hSw; (try dsimp only at hSw); go_simp; (try with_reducible rfl))
                (try simp only [Act.put, nA, nB, nC])
                refine wpAnyM_take 5 (v := ?_) rfl (by kernel_rfl) (fun _ _ _ h => h) (Or.inl ⟨by rfl, ?_⟩) (by assumption) ?_
                rotate_left
                · (intro wx hSw; (try dsimp only at hSw); go_simp; (try with_reducible rfl))
                (try simp only [Act.put, nA, nB, nC])
                refine wpAnyM_take 6 (v := ?_) rfl (by kernel_rfl) (fun _ _ _ h => h) (Or.inl ⟨by rfl, ?_⟩) (by assumption) ?_
                rotate_left
                · (intro wx hSw; (try dsimp only at hSw); go_simp; (try with_reducible rfl))
                (try simp only [Act.put, nA, nB, nC])
                refine wpAnyM_take 7 (v := ?_) rfl (by kernel_rfl) (fun _ _ _ h => h) (Or.inl ⟨by rfl, ?_⟩) (by assumption) ?_
                rotate_left
                · (intro wx hSw; (try dsimp only at hSw); go_simp; (try rw [E1.out]); (try with_reducible rfl))
                (try simp only [Act.put, nA, nB, nC])
                refine wpAnyM_one 8 rfl (by kernel_rfl) (fun K hK => ?_)
                go_simp
                refine hK.out _ _ (.inl (by kernel_rfl)) (fun _ => ?_)
                clear hK K
                (try simp only [Act.put, nA, nB, nC])
                refine wpAnyM_done (by kernel_rfl) ?_ _
                go_upto_region 23 with fail
                have HT := Lib.hid (HS.out.down (Below.drew (Below.refl _ _)))
                clear HS
                have HS := HT
                clear HT
                refine wp_region_M (fun w' => w'.cell? ⟨eb, 8, none⟩ = some (.int .i64 p) ∧ w'.cell? ⟨w.heap.size, 1, none⟩ = some (.int .i64 x)) 11 (by kernel_rfl) ?_ (fun hHeld => ?_)
                · exact ⟨(HS.out.s.cell (i := 8) (by decide)).trans (congrArg (fun z => some (Go.Value.int .i64 z)) HP.out), (HS.out.v.cell (i := 1) (by decide)).trans (congrArg (fun z => some (Go.Value.int .i64 z)) HXk.out)⟩
                refine wpAnyM_take 0 (v := ?_) rfl (by kernel_rfl) (fun _ _ _ h => h) (Or.inl ⟨by rfl, ?_⟩) (by assumption) ?_
                rotate_left
                · (intro wx hSw; (try dsimp only at hSw); go_simp; (try with_reducible rfl))
                (try simp only [Act.put, nA, nB, nC])
                refine wpAnyM_take 1 (v := ?_) rfl (by kernel_rfl) (fun _ _ _ h => h) (Or.inl ⟨by rfl, ?_⟩) (by assumption) ?_
                rotate_left
                · (intro wx hSw; (try dsimp only at hSw); go_simp; (try with_reducible rfl))
                (try simp only [Act.put, nA, nB, nC])
                refine wpAnyM_take 2 (v := ?_) rfl (by kernel_rfl) (fun _ _ _ h => h) (Or.inl ⟨by rfl, ?_⟩) (by assumption) ?_
                rotate_left
                · (intro wx hSw; (try dsimp only at hSw); go_simp; rw [show IntKind.i64.wrap 8 = 8 from IntWalk.i64_in _ (by omega)]; go_simp; (try with_reducible rfl))
                (try simp only [Act.put, nA, nB, nC])
                refine wpAnyM_take 3 (v := ?_) rfl (by kernel_rfl) (fun _ _ _ h => h) (Or.inl ⟨by rfl, ?_⟩) (by assumption) ?_
                rotate_left
                · (intro wx hSw; (try dsimp only at hSw); go_simp; (try with_reducible rfl))
                (try simp only [Act.put, nA, nB, nC])
                refine wpAnyM_take 4 (v := ?_) rfl (by kernel_rfl) (fun _ _ _ h => h) (Or.inl ⟨by rfl, ?_⟩) (by assumption) ?_
                rotate_left
                · (intro wx hSw; (try dsimp only at hSw); go_simp; (try with_reducible rfl))
                (try simp only [Act.put, nA, nB, nC])
                refine wpAnyM_take 5 (v := ?_) rfl (by kernel_rfl) (fun _ _ _ h => h) (Or.inl ⟨by rfl, ?_⟩) (by assumption) ?_
                rotate_left
                · (intro wx hSw; (try dsimp only at hSw); go_simp; (try with_reducible rfl))
                (try simp only [Act.put, nA, nB, nC])
                refine wpAnyM_take 6 (v := ?_) rfl (by kernel_rfl) (fun _ _ _ h => h) (Or.inl ⟨by rfl, ?_⟩) (by assumption) ?_
                rotate_left
                · (intro wx hSw; (try dsimp only at hSw); go_simp; (try with_reducible rfl))
                (try simp only [Act.put, nA, nB, nC])
                refine wpAnyM_take 7 (v := ?_) rfl (by kernel_rfl) (fun _ _ _ h => h) (Or.inl ⟨by rfl, ?_⟩) (by assumption) ?_
                rotate_left
                · (intro wx hSw; (try dsimp only at hSw); go_simp; (try with_reducible rfl))
                (try simp only [Act.put, nA, nB, nC])
                refine wpAnyM_take 8 (v := ?_) rfl (by kernel_rfl) (fun _ _ _ h => h) (Or.inl ⟨by rfl, ?_⟩) (by assumption) ?_
                rotate_left
                · (intro wx hSw; (try dsimp only at hSw); go_simp; (try with_reducible rfl))
                (try simp only [Act.put, nA, nB, nC])
                refine wpAnyM_oneS 9 rfl (by kernel_rfl) (fun K hK => ?_)
                go_simp
                (refine (MC.out _ HS.out.fl.cell HS.out.fl.free).mono ?_); rintro e w8 ⟨rfl, hu⟩; have HT := Lib.hid (HS.out.upd' hu); clear HS hu; have HS := HT; clear HT
                (try dsimp only)
                (try simp only [Act.put, nA, nB, nC])
                clear hHeld
                refine hK.out _ _ ?_ (fun hHeld => ?_)
                · exact ⟨(HS.out.s.cell (i := 8) (by decide)).trans (congrArg (fun z => some (Go.Value.int .i64 z)) HP.out), (HS.out.v.cell (i := 1) (by decide)).trans (congrArg (fun z => some (Go.Value.int .i64 z)) HXk.out)⟩
                clear hK K
                (try simp only [Act.put, nA, nB, nC])
                refine wpAnyM_take 10 (v := ?_) rfl (by kernel_rfl) (fun _ _ _ h => h) (Or.inl ⟨by rfl, ?_⟩) (by assumption) ?_
                rotate_left
                · (intro wx hSw; (try dsimp only at hSw); go_simp; (try rw [E2.out]); (try with_reducible rfl))
                (try simp only [Act.put, nA, nB, nC])
                refine wpAnyM_one 11 rfl (by kernel_rfl) (fun K hK => ?_)
                go_simp
                refine hK.out _ _ (.inl (by kernel_rfl)) (fun _ => ?_)
                clear hK K
                (try simp only [Act.put, nA, nB, nC])
                refine wpAnyM_done (by kernel_rfl) ?_ _
                go_upto_region 24 with fail
                go_wp2_with fail
                go_roundw
                case rel => exact ⟨2, by omega, by go_num, HS⟩
                case measure => simp [intOf]
              · have b := RE.out 2 (by decide)
                have ca := R.out.s.cell (i := 6) (by decide)
                have cb := R.out.v.cell (i := 2) (by decide)
                have cd := R.out.s.cell (i := 9) (by decide)
                obtain ⟨s, hs⟩ : ∃ x, S 6 = x := ⟨_, rfl⟩
                obtain ⟨p, hp⟩ : ∃ x, S 9 = x := ⟨_, rfl⟩
                obtain ⟨x, hx⟩ : ∃ x, X 2 = x := ⟨_, rfl⟩
                simp only [show 4 + 2 = 6 from rfl, show 7 + 2 = 9 from rfl] at b
                rw [hs, hp, hx] at b
                rw [hs] at ca
                rw [hx] at cb
                rw [hp] at cd
                have MC := fun (W : World) (a : W.cell? ⟨bc, 0, none⟩ = some (.bool false)) (f : W.frozen? ⟨bc, 0, none⟩ = false) => fmul_any ⟨bc, 0, none⟩ false x t 30 W a f
                rw [b.2.2, Bool.or_false] at MC
                obtain ⟨q, hq⟩ : ∃ q, mulV x t 30 = q := ⟨_, rfl⟩
                rw [hq] at b MC
                have MC := Lib.hid MC
                have e1 : IntKind.i64.wrap (s - x) = s - x := IntWalk.i64_in _ (by omega)
                have e2 : IntKind.i64.wrap (p - q) = p - q := IntWalk.i64_in _ (by omega)
                obtain ⟨d, hd⟩ : ∃ d, s - x = d := ⟨_, rfl⟩
                obtain ⟨e, he⟩ : ∃ e, p - q = e := ⟨_, rfl⟩
                rw [hd] at b
                rw [he] at b
                have f1 : decide (16384 < d) = false := by simp; omega
                have f2 : decide (d < -16384) = false := by simp; omega
                have f3 : decide (65536 < e) = false := by simp; omega
                have f4 : decide (e < -65536) = false := by simp; omega
                have E1 := Lib.hid (e1.trans hd)
                have E2 := Lib.hid (e2.trans he)
                have HP := Lib.hid hp
                have HXk := Lib.hid hx
                clear b hs hp hx hq hd he cd e1 e2
                go_upto_region 22 with fail
                have HS := Lib.hid (R.out.down (Below.drew (Below.refl _ _)))
                clear R
                refine wp_region_M (fun w' => w'.cell? ⟨eb, 6, none⟩ = some (.int .i64 s) ∧ w'.cell? ⟨w.heap.size, 2, none⟩ = some (.int .i64 x)) 8 (by kernel_rfl) ?_ (fun hHeld => ?_)
                · exact ⟨ca, cb⟩
                refine wpAnyM_take 0 (v := ?_) rfl (by kernel_rfl) (fun _ _ _ h => h) (Or.inl ⟨by rfl, ?_⟩) (by assumption) ?_
                rotate_left
                · (intro wx hSw; (try dsimp only at hSw); go_simp; (try with_reducible rfl))
                (try simp only [Act.put, nA, nB, nC])
                refine wpAnyM_take 1 (v := ?_) rfl (by kernel_rfl) (fun _ _ _ h => h) (Or.inl ⟨by rfl, ?_⟩) (by assumption) ?_
                rotate_left
                · (intro wx hSw; (try dsimp only at hSw); go_simp; (try with_reducible rfl))
                (try simp only [Act.put, nA, nB, nC])
                refine wpAnyM_take 2 (v := ?_) rfl (by kernel_rfl) (fun _ _ _ h => h) (Or.inl ⟨by rfl, ?_⟩) (by assumption) ?_
                rotate_left
                · (intro wx hSw; (try dsimp only at hSw); go_simp; rw [show IntKind.i64.wrap 6 = 6 from IntWalk.i64_in _ (by omega)]; go_simp; (try with_reducible rfl))
                (try simp only [Act.put, nA, nB, nC])
                refine wpAnyM_take 3 (v := ?_) rfl (by kernel_rfl) (fun _ _ _ h => h) (Or.inl ⟨by rfl, ?_⟩) (by assumption) ?_
                rotate_left
                · (intro wx hSw; (try dsimp only at hSw); go_simp; (try with_reducible rfl))
                (try simp only [Act.put, nA, nB, nC])
                refine wpAnyM_take 4 (v := ?_) rfl (by kernel_rfl) (fun _ _ _ h => h) (Or.inl ⟨by rfl, ?_⟩) (by assumption) ?_
                rotate_left
                · (intro wx hSw; (try dsimp only at hSw); go_simp; (try with_reducible rfl))
                (try simp only [Act.put, nA, nB, nC])
                refine wpAnyM_take 5 (v := ?_) rfl (by kernel_rfl) (fun _ _ _ h => h) (Or.inl ⟨by rfl, ?_⟩) (by assumption) ?_
                rotate_left
                · (intro wx hSw; (try dsimp only at hSw); go_simp; (try with_reducible rfl))
                (try simp only [Act.put, nA, nB, nC])
                refine wpAnyM_take 6 (v := ?_) rfl (by kernel_rfl) (fun _ _ _ h => h) (Or.inl ⟨by rfl, ?_⟩) (by assumption) ?_
                rotate_left
                · (intro wx hSw; (try dsimp only at hSw); go_simp; (try with_reducible rfl))
                (try simp only [Act.put, nA, nB, nC])
                refine wpAnyM_take 7 (v := ?_) rfl (by kernel_rfl) (fun _ _ _ h => h) (Or.inl ⟨by rfl, ?_⟩) (by assumption) ?_
                rotate_left
                · (intro wx hSw; (try dsimp only at hSw); go_simp; (try rw [E1.out]); (try with_reducible rfl))
                (try simp only [Act.put, nA, nB, nC])
                refine wpAnyM_one 8 rfl (by kernel_rfl) (fun K hK => ?_)
                go_simp
                refine hK.out _ _ (.inl (by kernel_rfl)) (fun _ => ?_)
                clear hK K
                (try simp only [Act.put, nA, nB, nC])
                refine wpAnyM_done (by kernel_rfl) ?_ _
                go_upto_region 23 with fail
                have HT := Lib.hid (HS.out.down (Below.drew (Below.refl _ _)))
                clear HS
                have HS := HT
                clear HT
                refine wp_region_M (fun w' => w'.cell? ⟨eb, 9, none⟩ = some (.int .i64 p) ∧ w'.cell? ⟨w.heap.size, 2, none⟩ = some (.int .i64 x)) 11 (by kernel_rfl) ?_ (fun hHeld => ?_)
                · exact ⟨(HS.out.s.cell (i := 9) (by decide)).trans (congrArg (fun z => some (Go.Value.int .i64 z)) HP.out), (HS.out.v.cell (i := 2) (by decide)).trans (congrArg (fun z => some (Go.Value.int .i64 z)) HXk.out)⟩
                refine wpAnyM_take 0 (v := ?_) rfl (by kernel_rfl) (fun _ _ _ h => h) (Or.inl ⟨by rfl, ?_⟩) (by assumption) ?_
                rotate_left
                · (intro wx hSw; (try dsimp only at hSw); go_simp; (try with_reducible rfl))
                (try simp only [Act.put, nA, nB, nC])
                refine wpAnyM_take 1 (v := ?_) rfl (by kernel_rfl) (fun _ _ _ h => h) (Or.inl ⟨by rfl, ?_⟩) (by assumption) ?_
                rotate_left
                · (intro wx hSw; (try dsimp only at hSw); go_simp; (try with_reducible rfl))
                (try simp only [Act.put, nA, nB, nC])
                refine wpAnyM_take 2 (v := ?_) rfl (by kernel_rfl) (fun _ _ _ h => h) (Or.inl ⟨by rfl, ?_⟩) (by assumption) ?_
                rotate_left
                · (intro wx hSw; (try dsimp only at hSw); go_simp; rw [show IntKind.i64.wrap 9 = 9 from IntWalk.i64_in _ (by omega)]; go_simp; (try with_reducible rfl))
                (try simp only [Act.put, nA, nB, nC])
                refine wpAnyM_take 3 (v := ?_) rfl (by kernel_rfl) (fun _ _ _ h => h) (Or.inl ⟨by rfl, ?_⟩) (by assumption) ?_
                rotate_left
                · (intro wx hSw; (try dsimp only at hSw); go_simp; (try with_reducible rfl))
                (try simp only [Act.put, nA, nB, nC])
                refine wpAnyM_take 4 (v := ?_) rfl (by kernel_rfl) (fun _ _ _ h => h) (Or.inl ⟨by rfl, ?_⟩) (by assumption) ?_
                rotate_left
                · (intro wx hSw; (try dsimp only at hSw); go_simp; (try with_reducible rfl))
                (try simp only [Act.put, nA, nB, nC])
                refine wpAnyM_take 5 (v := ?_) rfl (by kernel_rfl) (fun _ _ _ h => h) (Or.inl ⟨by rfl, ?_⟩) (by assumption) ?_
                rotate_left
                · (intro wx hSw; (try dsimp only at hSw); go_simp; (try with_reducible rfl))
                (try simp only [Act.put, nA, nB, nC])
                refine wpAnyM_take 6 (v := ?_) rfl (by kernel_rfl) (fun _ _ _ h => h) (Or.inl ⟨by rfl, ?_⟩) (by assumption) ?_
                rotate_left
                · (intro wx hSw; (try dsimp only at hSw); go_simp; (try with_reducible rfl))
                (try simp only [Act.put, nA, nB, nC])
                refine wpAnyM_take 7 (v := ?_) rfl (by kernel_rfl) (fun _ _ _ h => h) (Or.inl ⟨by rfl, ?_⟩) (by assumption) ?_
                rotate_left
                · (intro wx hSw; (try dsimp only at hSw); go_simp; (try with_reducible rfl))
                (try simp only [Act.put, nA, nB, nC])
                refine wpAnyM_take 8 (v := ?_) rfl (by kernel_rfl) (fun _ _ _ h => h) (Or.inl ⟨by rfl, ?_⟩) (by assumption) ?_
                rotate_left
                · (intro wx hSw; (try dsimp only at hSw); go_simp; (try with_reducible rfl))
                (try simp only [Act.put, nA, nB, nC])
                refine wpAnyM_oneS 9 rfl (by kernel_rfl) (fun K hK => ?_)
                go_simp
                (refine (MC.out _ HS.out.fl.cell HS.out.fl.free).mono ?_); rintro e w8 ⟨rfl, hu⟩; have HT := Lib.hid (HS.out.upd' hu); clear HS hu; have HS := HT; clear HT
                (try dsimp only)
                (try simp only [Act.put, nA, nB, nC])
                clear hHeld
                refine hK.out _ _ ?_ (fun hHeld => ?_)
                · exact ⟨(HS.out.s.cell (i := 9) (by decide)).trans (congrArg (fun z => some (Go.Value.int .i64 z)) HP.out), (HS.out.v.cell (i := 2) (by decide)).trans (congrArg (fun z => some (Go.Value.int .i64 z)) HXk.out)⟩
                clear hK K
                (try simp only [Act.put, nA, nB, nC])
                refine wpAnyM_take 10 (v := ?_) rfl (by kernel_rfl) (fun _ _ _ h => h) (Or.inl ⟨by rfl, ?_⟩) (by assumption) ?_
                rotate_left
                · (intro wx hSw; (try dsimp only at hSw); go_simp; (try rw [E2.out]); (try with_reducible rfl))
                (try simp only [Act.put, nA, nB, nC])
                refine wpAnyM_one 11 rfl (by kernel_rfl) (fun K hK => ?_)
                go_simp
                refine hK.out _ _ (.inl (by kernel_rfl)) (fun _ => ?_)
                clear hK K
                (try simp only [Act.put, nA, nB, nC])
                refine wpAnyM_done (by kernel_rfl) ?_ _
                go_upto_region 24 with fail
                go_wp2_with fail
                go_roundw
                case rel => exact ⟨3, by omega, by go_num, HS⟩
                case measure => simp [intOf]
            · obtain rfl : k = 3 := by omega
              have t5 : decide (((3 : Nat) : Int) < 3) = false := by simp
              have P9 := R.out.s
              have fc := R.out.fl.cell
              go_upto_region 26 with fail
              refine wp_region_lit ?_
              refine wpList_val (v := ?_) rfl ?_ ?_
              rotate_left
              · (go_simp; (try (first | with_reducible rfl | (constructor <;> with_reducible rfl))))
              (try simp only [Act.put, nA, nB, nC])
              refine wpList_val (v := ?_) rfl ?_ ?_
              rotate_left
              · (go_simp; (try (first | with_reducible rfl | (constructor <;> with_reducible rfl))))
              (try simp only [Act.put, nA, nB, nC])
              refine wpList_val (v := ?_) rfl ?_ ?_
              rotate_left
              · (go_simp; (try (first | with_reducible rfl | (constructor <;> with_reducible rfl))))
              (try simp only [Act.put, nA, nB, nC])
              refine wpList_val (v := ?_) rfl ?_ ?_
              rotate_left
              · (go_simp; (try (first | with_reducible rfl | (constructor <;> with_reducible rfl))))
              (try simp only [Act.put, nA, nB, nC])
              refine wpList_val (v := ?_) rfl ?_ ?_
              rotate_left
              · (go_simp; (try (first | with_reducible rfl | (constructor <;> with_reducible rfl))))
              (try simp only [Act.put, nA, nB, nC])
              refine wpList_val (v := ?_) rfl ?_ ?_
              rotate_left
              · (go_simp; (try (first | with_reducible rfl | (constructor <;> with_reducible rfl))))
              (try simp only [Act.put, nA, nB, nC])
              first | (refine wpList_val (v := ?_) (by rfl) ?_ ?_; rotate_left; focus (refine Eq.trans (run_load_row 27 (.tmp 11) (by rfl) (eb) (by rfl) _ _ _ _ (P9) Try.underlying27 rfl (ist.trans (by rw [arrv_size]))) ?_; with_reducible rfl)) | refine wpList_skip (by rfl) ?_
              (try simp only [Act.put, nA, nB, nC])
              refine wpList_step (fun K hK => ?_)
              go_simp
              (refine (GC.out _).mono ?_); rintro e w9 ⟨rfl, hb⟩
              (try dsimp only)
              (try simp only [Act.put, nA, nB, nC])
              refine hK _ _ ?_
              clear hK K
              refine wpList_val (v := ?_) rfl ?_ ?_
              rotate_left
              · (go_simp; (try (first | with_reducible rfl | (constructor <;> with_reducible rfl))))
              (try simp only [Act.put, nA, nB, nC])
              refine wpList_val (v := ?_) rfl ?_ ?_
              rotate_left
              · (go_simp; (try (first | with_reducible rfl | (constructor <;> with_reducible rfl))))
              (try simp only [Act.put, nA, nB, nC])
              refine wpList_nil ?_
              go_wp2_with fail
              go_ret
              exact ⟨rfl, Below.after R.out.below hb⟩
theorem rest16_walk (hd : Int) (X : Nat → Int) (us n : Int) (w : World) :
    Calls Try.prog 7 #[.int .i64 hd, .agg (arrv 3 X), .int .i64 us, .int .i64 n] w fun e w' => e = .returned (.bool true) ∧ Below w.heap.size w w' := by
  by_cases h : us < 1000 ∨ 100000 < us ∨ n < 0 ∨ 50 < n
  · exact rest16_no hd us n X w h
  · obtain ⟨m, rfl⟩ : ∃ m : Nat, n = (m : Int) := ⟨n.toNat, by omega⟩
    exact rest16_yes hd us m X w (by omega) (by omega) (by omega)
end Go.Proofs.Ytnnjcdbliaecgaa
