/- Contract of tri.Diag. -/
import Derived.Test.YtcombidoaghlbaaLs
import Derived.Test.YtcombidoaghlbaaS01
namespace Go.Proofs.Ytcombidoaghlbaa
open Go.RowKit
set_option maxRecDepth 100000
def dgF (f : Nat → Int) : Nat → Int := fun i => atV f i i
def dgB (f : Nat → Int) : Nat → Bool := fun i => atH f i i
set_option maxHeartbeats 4000000 in
theorem diag_any (c : Addr) (h : Bool) (f : Nat → Int) (w : World) (hc : w.cell? c = some (.bool h)) (hf : w.frozen? c = false) :
    Calls Try.prog 13 #[.pointer (some c), .agg (arrv 300 f)] w fun e w' => e = .returned (.agg (arrv 24 (dgF f))) ∧ Upd c (h || orB (dgB f) 24) w w' := by
  have L0 := Lib.hid (show LsR c h [⟨w.heap.size + 1 + 1, 23, 24, fun i => if i < 0 then dgF f i else 0⟩, ⟨w.heap.size + 1, 23, 24, fun _ => 0⟩, ⟨w.heap.size, 25, 300, f⟩] (w.heap.size + 1 + 1 + 1) w (((w.alloc (.cells (arrv 300 f) 25)).alloc (.cells #[.int .i64 0, .int .i64 0, .int .i64 0, .int .i64 0, .int .i64 0, .int .i64 0, .int .i64 0, .int .i64 0, .int .i64 0, .int .i64 0, .int .i64 0, .int .i64 0, .int .i64 0, .int .i64 0, .int .i64 0, .int .i64 0, .int .i64 0, .int .i64 0, .int .i64 0, .int .i64 0, .int .i64 0, .int .i64 0, .int .i64 0, .int .i64 0] 23)).alloc (.cells #[.int .i64 0, .int .i64 0, .int .i64 0, .int .i64 0, .int .i64 0, .int .i64 0, .int .i64 0, .int .i64 0, .int .i64 0, .int .i64 0, .int .i64 0, .int .i64 0, .int .i64 0, .int .i64 0, .int .i64 0, .int .i64 0, .int .i64 0, .int .i64 0, .int .i64 0, .int .i64 0, .int .i64 0, .int .i64 0, .int .i64 0, .int .i64 0] 23)) by
    rw [zcol]
    have := (((ls_nil hc hf).lay 25 300 f).lay 23 24 (fun _ => 0)).lay 23 24 (fun _ => 0)
    refine LsR.congr (F := fun _ => 0) ?_ rfl fun i _ => (if_neg (by omega)).symm
    simpa using this)
  have FN := Lib.hid (show ∀ e ∈ [(⟨w.heap.size + 1, 23, 24, fun _ => 0⟩ : Lx), ⟨w.heap.size, 25, 300, f⟩], e.b ≠ w.heap.size + 1 + 1 by simp; omega)
  clear hc hf
  go_enter Try.func13, Try.ntmps13
  go_upto_region 2 with fail
  generalize ((w.alloc (.cells (arrv 300 f) 25)).alloc (.cells #[.int .i64 0, .int .i64 0, .int .i64 0, .int .i64 0, .int .i64 0, .int .i64 0, .int .i64 0, .int .i64 0, .int .i64 0, .int .i64 0, .int .i64 0, .int .i64 0, .int .i64 0, .int .i64 0, .int .i64 0, .int .i64 0, .int .i64 0, .int .i64 0, .int .i64 0, .int .i64 0, .int .i64 0, .int .i64 0, .int .i64 0, .int .i64 0] 23)).alloc (.cells #[.int .i64 0, .int .i64 0, .int .i64 0, .int .i64 0, .int .i64 0, .int .i64 0, .int .i64 0, .int .i64 0, .int .i64 0, .int .i64 0, .int .i64 0, .int .i64 0, .int .i64 0, .int .i64 0, .int .i64 0, .int .i64 0, .int .i64 0, .int .i64 0, .int .i64 0, .int .i64 0, .int .i64 0, .int .i64 0, .int .i64 0, .int .i64 0] 23) = W0 at *
  go_wp2_with fail
  go_loopw [7] (fun v wr => ∃ k : Nat, k ≤ 24 ∧ v = .int .i64 k ∧ Hid (LsR c (h || orB (dgB f) k) [⟨w.heap.size + 1 + 1, 23, 24, fun i => if i < k then dgF f i else 0⟩, ⟨w.heap.size + 1, 23, 24, fun _ => 0⟩, ⟨w.heap.size, 25, 300, f⟩] (w.heap.size + 1 + 1 + 1) w wr)) (fun v _ => 24 - (intOf v).toNat)
  case atStart => exact ⟨0, by omega, rfl, by rw [show (h || orB (dgB f) 0) = h from by simp [orB]]; exact L0⟩
  case round =>
    obtain ⟨k, hk, rfl, R⟩ := hrel
    clear L0
    by_cases hlt : k < 24
    · have d1 : decide ((k : Int) < 24) = true := by simp; omega
      have k0 : (0 : Int) ≤ (k : Int) := Int.natCast_nonneg _
      have k1 : (k : Int) < 24 := by omega
      obtain ⟨G, hG⟩ : ∃ x : Nat → Int, (fun i => if i < k then dgF f i else 0) = x := ⟨_, rfl⟩
      obtain ⟨H, hH⟩ : ∃ x, (h || orB (dgB f) k) = x := ⟨_, rfl⟩
      rw [hG, hH] at R
      have AT := Lib.hid (at_any c H f k k wr R.out.cell R.out.free hlt hlt)
      obtain ⟨y, hy⟩ : ∃ y, atV f k k = y := ⟨_, rfl⟩
      rw [hy] at AT
      have HG := Lib.hid (And.intro hG (And.intro hH hy))
      clear hG hH hy
      have P5 := R.out.e2
      go_upto_region 5 with fail
      refine wp_region_lit ?_
      refine wpList_val (v := ?_) rfl ?_ ?_
      rotate_left
      · (go_simp; (try (first | with_reducible rfl | (constructor <;> with_reducible rfl))))
      (try simp only [Act.put, nA, nB, nC])
      refine wpList_val (v := ?_) rfl ?_ ?_
      rotate_left
      · (go_simp; (try (first | with_reducible rfl | (constructor <;> with_reducible rfl))))
      (try simp only [Act.put, nA, nB, nC])
      refine wpList_val (v := ?_) rfl ?_ ?_
      rotate_left
      · refine Eq.trans (run_load_row 25 (.tmp 3) (by rfl) (w.heap.size) (by rfl) _ _ _ _ (P5) Try.underlying25 rfl (icov.trans (by rw [arrv_size]))) ?_; with_reducible rfl
      (try simp only [Act.put, nA, nB, nC])
      refine wpList_val (v := ?_) rfl ?_ ?_
      rotate_left
      · (go_simp; (try (first | with_reducible rfl | (constructor <;> with_reducible rfl))))
      (try simp only [Act.put, nA, nB, nC])
      refine wpList_val (v := ?_) rfl ?_ ?_
      rotate_left
      · (go_simp; (try (first | with_reducible rfl | (constructor <;> with_reducible rfl))))
      (try simp only [Act.put, nA, nB, nC])
      refine wpList_step (fun K hK => ?_)
      go_simp
      (refine AT.out.mono ?_); rintro e w1 ⟨rfl, hu⟩; have S := Lib.hid (R.out.upd' hu); clear hu R AT P5; have xf := S.out.e0.free k; have xc := S.out.e0.cell (i := k) (by omega)
      (try dsimp only)
      (try simp only [Act.put, nA, nB, nC])
      refine hK _ _ ?_
      clear hK K
      refine wpList_val (v := ?_) rfl ?_ ?_
      rotate_left
      · (go_simp; (try (first | with_reducible rfl | (constructor <;> with_reducible rfl))))
      (try simp only [Act.put, nA, nB, nC])
      refine wpList_done (w' := ?_) rfl ?_ ?_
      rotate_left
      · (go_simp; (try (first | with_reducible rfl | (constructor <;> with_reducible rfl))))
      (try simp only [Act.put, nA, nB, nC])
      refine wpList_nil ?_
      go_wp2_with fail
      go_roundw
      case rel =>
        refine ⟨k + 1, by omega, by go_num, Lib.hid ((S.out.set FN.out k y).congr (G := fun i => if i < k + 1 then dgF f i else 0) ?_ fun i _ => ?_)⟩
        · rw [← HG.out.2.1]; simp [orB, dgB, Bool.or_assoc]
        · rw [← HG.out.1, ← HG.out.2.2]
          simp only [Go.Proofs.Ytcombidoaghlbaa.upd]
          by_cases h1 : i = k
          · rw [if_pos h1, if_pos (by omega), h1]; rfl
          · rw [if_neg h1]
            by_cases h2 : i < k
            · rw [if_pos h2, if_pos (by omega)]
            · rw [if_neg h2, if_neg (by omega)]
      case measure => simp [intOf]; omega
    · have hk24 : k = 24 := by omega
      subst hk24
      rw [show ((24 : Nat) : Int) = 24 from rfl]
      have R2 := Lib.hid (R.out.congr (G := dgF f) rfl fun i hi => if_pos hi)
      clear R hk hlt
      obtain ⟨G, hG⟩ : ∃ x, dgF f = x := ⟨_, rfl⟩
      rw [hG] at R2
      have HG := Lib.hid hG
      clear hG
      have O7 := R2.out.e0
      have P7 := R2.out.e1
      go_upto_region 7 with fail
      refine wp_region_lit ?_
      refine wpList_val (v := ?_) rfl ?_ ?_
      rotate_left
      · (refine Eq.trans (run_load_row 23 (.tmp 5) (by rfl) (w.heap.size + 1 + 1) (by rfl) _ _ _ _ O7 Try.underlying23 rfl (icol.trans (by rw [arrv_size]))) ?_; with_reducible rfl)
      (try simp only [Act.put, nA, nB, nC])
      refine wpList_done (w' := ?_) rfl ?_ ?_
      rotate_left
      · (refine Eq.trans (run_store_row 23 (.tmp 4) (.tmp 18) (by rfl) (w.heap.size + 1) (by rfl) (by rfl) P7 (icol.trans rfl)) ?_; with_reducible rfl)
      (try simp only [Act.put, nA, nB, nC])
      refine wpList_nil ?_
      have r1 := P7.setRow G
      have U1 := R2.out.upd.then' (below_row (Below.refl _ _) (show w.heap.size ≤ w.heap.size + 1 by omega) (arrv 24 G))
      generalize wr.setRow (w.heap.size + 1) (arrv 24 G) = W9 at *
      go_wp2_with fail
      exact bodyPost_ret (results_cell_row Try.results13 _ _ (w.heap.size + 1) 23 (arrv 24 G) (0, 0) _ rfl r1 Try.underlying23 rfl (icol.trans (by rw [arrv_size]))) rfl ⟨by rw [HG.out], U1⟩
end Go.Proofs.Ytcombidoaghlbaa
