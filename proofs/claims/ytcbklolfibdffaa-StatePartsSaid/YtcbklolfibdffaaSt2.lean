/- Contracts of package state (2): clamp. -/
import Derived.Test.YtcbklolfibdffaaSt1
namespace Go.Proofs.Ytcbklolfibdffaa
open Go.RowKit
set_option maxRecDepth 100000
def clmF (S : Nat → Int) : Nat → Int := fun i => if i < 4 then S i else clampV (S i) (-(boxF i)) (boxF i)
def clmP (S : Nat → Int) (k : Nat) : Bool := clampH (S (4 + k)) (-(boxF (4 + k))) (boxF (4 + k))
def clmH (S : Nat → Int) : Bool := orB (clmP S) 20
def clmI (S : Nat → Int) (k : Nat) : Nat → Int := fun i => if i < 4 + k then clmF S i else S i
theorem boxF_bd (i : Nat) : 134217728 ≤ boxF i ∧ boxF i ≤ 9007199254740992 := by
  unfold boxF
  repeat' split
  all_goals omega
structure ClmR (c : Addr) (h : Bool) (bx : Nat) (g : Nat → Int) (w wr : World) : Prop where
  upd : Upd c h w wr
  blk : Blk wr w.heap.size 27 24 g
  res : Blk wr (w.heap.size + 1) 27 24 (fun _ => 0)
  box : Blk wr bx 29 24 boxF
theorem ClmR.upd' {c : Addr} {h h' : Bool} {bx : Nat} {g : Nat → Int} {w wr w' : World} (s : ClmR c h bx g w wr) (hc : c.block < w.heap.size) (hb : w.heap.size < bx) (u : Upd c h' wr w') : ClmR c h' bx g w w' :=
  ⟨s.upd.trans u, s.blk.upd u (by omega), s.res.upd u (by omega), s.box.upd u (by omega)⟩
theorem ClmR.drew {c : Addr} {h : Bool} {bx : Nat} {g : Nat → Int} {w wr : World} (s : ClmR c h bx g w wr) : ClmR c h bx g w wr.drew := ⟨s.upd.drew, s.blk, s.res, s.box⟩
theorem neg_in (M : Int) (h : 0 ≤ M ∧ M ≤ 9007199254740992) : IntKind.i64.wrap (-M) = -M := IntWalk.i64_in _ (by omega)
set_option maxHeartbeats 2000000 in
theorem clamp24_any (c : Addr) (h : Bool) (S : Nat → Int) (w : World) (hc : w.cell? c = some (.bool h)) (hf : w.frozen? c = false) :
    Calls Try.prog 19 #[.pointer (some c), .agg (arrv 24 S)] w fun e w' => e = .returned (.agg (arrv 24 (clmF S))) ∧ Upd c (h || clmH S) w w' := by
  have hcb := World.block_lt_of_cell? w c hc
  have P0 : Blk ((w.alloc (.cells (arrv 24 S) 27)).alloc (.cells #[.int .i64 0, .int .i64 0, .int .i64 0, .int .i64 0, .int .i64 0, .int .i64 0, .int .i64 0, .int .i64 0, .int .i64 0, .int .i64 0, .int .i64 0, .int .i64 0, .int .i64 0, .int .i64 0, .int .i64 0, .int .i64 0, .int .i64 0, .int .i64 0, .int .i64 0, .int .i64 0, .int .i64 0, .int .i64 0, .int .i64 0, .int .i64 0] 27)) w.heap.size 27 24 S := (Blk.new w _ 24 _).alloc _
  have R0 : Blk ((w.alloc (.cells (arrv 24 S) 27)).alloc (.cells #[.int .i64 0, .int .i64 0, .int .i64 0, .int .i64 0, .int .i64 0, .int .i64 0, .int .i64 0, .int .i64 0, .int .i64 0, .int .i64 0, .int .i64 0, .int .i64 0, .int .i64 0, .int .i64 0, .int .i64 0, .int .i64 0, .int .i64 0, .int .i64 0, .int .i64 0, .int .i64 0, .int .i64 0, .int .i64 0, .int .i64 0, .int .i64 0] 27)) (w.heap.size + 1) 27 24 (fun _ => 0) := by rw [zvec24]; exact Blk.new1 w _ _ 24 _
  have U0 : Upd c h w ((w.alloc (.cells (arrv 24 S) 27)).alloc (.cells #[.int .i64 0, .int .i64 0, .int .i64 0, .int .i64 0, .int .i64 0, .int .i64 0, .int .i64 0, .int .i64 0, .int .i64 0, .int .i64 0, .int .i64 0, .int .i64 0, .int .i64 0, .int .i64 0, .int .i64 0, .int .i64 0, .int .i64 0, .int .i64 0, .int .i64 0, .int .i64 0, .int .i64 0, .int .i64 0, .int .i64 0, .int .i64 0] 27)) := Upd.then (Upd.refl hc) (by (repeat (first | with_reducible exact Below.refl _ _ | with_reducible apply Below.drew | (with_reducible refine below_drewN ?_ _) | (with_reducible refine Below.alloc ?_ (by (try simp) <;> omega) _) | (with_reducible refine Below.setCell ?_ (by (try simp) <;> omega) _))))
  have P0 := Lib.hid P0
  have R0 := Lib.hid R0
  have U0 := Lib.hid U0
  have HC := Lib.hid hc
  have HF := Lib.hid hf
  clear hc hf
  go_enter Try.func19, Try.ntmps19
  go_upto_region 1 with fail
  generalize (w.alloc (.cells (arrv 24 S) 27)).alloc (.cells #[.int .i64 0, .int .i64 0, .int .i64 0, .int .i64 0, .int .i64 0, .int .i64 0, .int .i64 0, .int .i64 0, .int .i64 0, .int .i64 0, .int .i64 0, .int .i64 0, .int .i64 0, .int .i64 0, .int .i64 0, .int .i64 0, .int .i64 0, .int .i64 0, .int .i64 0, .int .i64 0, .int .i64 0, .int .i64 0, .int .i64 0, .int .i64 0] 27) = W0 at *
  go_upto_region 2 with (first | (go_at_call 9; (refine (bounds_any _).mono ?_); rintro e w1 ⟨rfl, hb1⟩; have X1 : Blk (w1.alloc (.cells #[.int .i64 0, .int .i64 0, .int .i64 0, .int .i64 0, .int .i64 0, .int .i64 0, .int .i64 0, .int .i64 0, .int .i64 0, .int .i64 0, .int .i64 0, .int .i64 0, .int .i64 0, .int .i64 0, .int .i64 0, .int .i64 0, .int .i64 0, .int .i64 0, .int .i64 0, .int .i64 0, .int .i64 0, .int .i64 0, .int .i64 0, .int .i64 0] 29)) w1.heap.size 29 24 (fun _ => 0) := (by rw [zvec24]; exact Blk.new _ _ 24 _)) | (refine wpList_store_row rfl 29 _ _ rfl (w1.heap.size) _ rfl rfl 29 _ (X1) (ibox.trans (by rw [arrv_size])) (by rw [arrv_size, arrv_size]) (oneCell_arrv _ _) ?_))
  have hbx : w.heap.size + 1 < w1.heap.size := (R0.out.below hb1).lt
  have B1 : Below w1.heap.size w1 ((w1.alloc (.cells #[.int .i64 0, .int .i64 0, .int .i64 0, .int .i64 0, .int .i64 0, .int .i64 0, .int .i64 0, .int .i64 0, .int .i64 0, .int .i64 0, .int .i64 0, .int .i64 0, .int .i64 0, .int .i64 0, .int .i64 0, .int .i64 0, .int .i64 0, .int .i64 0, .int .i64 0, .int .i64 0, .int .i64 0, .int .i64 0, .int .i64 0, .int .i64 0] 29)).setRow w1.heap.size (arrv 24 boxF)) := below_row (by (repeat (first | with_reducible exact Below.refl _ _ | with_reducible apply Below.drew | (with_reducible refine below_drewN ?_ _) | (with_reducible refine Below.alloc ?_ (by (try simp) <;> omega) _) | (with_reducible refine Below.setCell ?_ (by (try simp) <;> omega) _)))) (Nat.le_refl _) _
  have S1 : Hid (ClmR c h w1.heap.size S w ((w1.alloc (.cells #[.int .i64 0, .int .i64 0, .int .i64 0, .int .i64 0, .int .i64 0, .int .i64 0, .int .i64 0, .int .i64 0, .int .i64 0, .int .i64 0, .int .i64 0, .int .i64 0, .int .i64 0, .int .i64 0, .int .i64 0, .int .i64 0, .int .i64 0, .int .i64 0, .int .i64 0, .int .i64 0, .int .i64 0, .int .i64 0, .int .i64 0, .int .i64 0] 29)).setRow w1.heap.size (arrv 24 boxF))) := Lib.hid
    ⟨(U0.out.then hb1).then B1, (P0.out.below hb1).below B1, (R0.out.below hb1).below B1, X1.setRow _⟩
  obtain ⟨bx, hbxe⟩ : ∃ bx, w1.heap.size = bx := ⟨_, rfl⟩
  generalize (w1.alloc (.cells #[.int .i64 0, .int .i64 0, .int .i64 0, .int .i64 0, .int .i64 0, .int .i64 0, .int .i64 0, .int .i64 0, .int .i64 0, .int .i64 0, .int .i64 0, .int .i64 0, .int .i64 0, .int .i64 0, .int .i64 0, .int .i64 0, .int .i64 0, .int .i64 0, .int .i64 0, .int .i64 0, .int .i64 0, .int .i64 0, .int .i64 0, .int .i64 0] 29)).setRow w1.heap.size (arrv 24 boxF) = W1 at *
  rw [hbxe] at S1 hbx ⊢
  clear hbxe X1 B1 hb1 P0 R0 U0
  go_wp2_with fail
  go_loopw [6] (fun i wr => ∃ k : Nat, k ≤ 20 ∧ i = .int .i64 (4 + (k : Int)) ∧ Hid (ClmR c (h || orB (clmP S) k) bx (clmI S k) w wr)) (fun i _ => 24 - (intOf i).toNat)
  case atStart =>
    refine ⟨0, by omega, rfl, ?_⟩
    rw [show (h || orB (clmP S) 0) = h from by simp [orB]]
    exact ⟨S1.out.upd, S1.out.blk.congr fun i hi => by simp only [clmI, clmF]; split <;> first | rfl | (rw [if_pos (by omega)]), S1.out.res, S1.out.box⟩
  case round =>
    obtain ⟨k, hk, rfl, R⟩ := hrel
    by_cases hlt : k < 20
    · have rc := R.out.upd.cellc HC.out
      have rf := (R.out.upd.frozen hcb).trans HF.out
      have b0 := R.out.blk.cell (i := 4 + k) (by omega)
      have x0 := R.out.box.cell (i := 4 + k) (by omega)
      have hv : clmI S k (4 + k) = S (4 + k) := by simp [clmI]
      rw [hv] at b0
      have hM := boxF_bd (4 + k)
      have n0 := ne_of_cells rc b0
      have n1 := ne_of_cells rc x0
      obtain ⟨M, hMe⟩ : ∃ M, boxF (4 + k) = M := ⟨_, rfl⟩
      rw [hMe] at x0 hM
      have hneg := neg_in M (by omega)
      have d1 : decide (4 + (k : Int) < 24) = true := by simp; omega
      have k0 : (0 : Int) ≤ 4 + (k : Int) := by omega
      have k1 : 4 + (k : Int) < 24 := by omega
      have k2 : (4 + (k : Int)).toNat = 4 + k := by omega
      have CL := Lib.hid (fun w rc rf => clamp_any c (h || orB (clmP S) k) (S (4 + k)) (-M) M w rc rf)
      have HME := Lib.hid hMe
      clear hv hMe hM
      go_upto_region 5 with fail
      refine wp_region_M (fun w' => w'.cell? ⟨w.heap.size, 4 + k, none⟩ = some (.int .i64 (S (4 + k))) ∧ w'.cell? ⟨bx, 4 + k, none⟩ = some (.int .i64 M)) 14 (by kernel_rfl) ?_ (fun hHeld => ?_)
      · exact ⟨b0, x0⟩
      refine wpAnyM_take 0 (v := ?_) rfl (by kernel_rfl) (fun _ _ _ h => h) (Or.inl ⟨by rfl, ?_⟩) (by assumption) ?_
      rotate_left
      · (intro wx hSw; (try dsimp only at hSw); go_simp; (try with_reducible rfl))
      (try simp only [Act.put, List.setIfInBounds_toArray, List.set_cons_zero, List.set_cons_succ])
      refine wpAnyM_take 1 (v := ?_) rfl (by kernel_rfl) (fun _ _ _ h => h) (Or.inl ⟨by rfl, ?_⟩) (by assumption) ?_
      rotate_left
      · (intro wx hSw; (try dsimp only at hSw); go_simp; (try with_reducible rfl))
      (try simp only [Act.put, List.setIfInBounds_toArray, List.set_cons_zero, List.set_cons_succ])
      refine wpAnyM_take 2 (v := ?_) rfl (by kernel_rfl) (fun _ _ _ h => h) (Or.inl ⟨by rfl, ?_⟩) (by assumption) ?_
      rotate_left
      · (intro wx hSw; (try dsimp only at hSw); go_simp; (try with_reducible rfl))
      (try simp only [Act.put, List.setIfInBounds_toArray, List.set_cons_zero, List.set_cons_succ])
      refine wpAnyM_take 3 (v := ?_) rfl (by kernel_rfl) (fun _ _ _ h => h) (Or.inl ⟨by rfl, ?_⟩) (by assumption) ?_
      rotate_left
      · (intro wx hSw; (try dsimp only at hSw); go_simp; (try with_reducible rfl))
      (try simp only [Act.put, List.setIfInBounds_toArray, List.set_cons_zero, List.set_cons_succ])
      refine wpAnyM_take 4 (v := ?_) rfl (by kernel_rfl) (fun _ _ _ h => h) (Or.inl ⟨by rfl, ?_⟩) (by assumption) ?_
      rotate_left
      · (intro wx hSw; (try dsimp only at hSw); go_simp; (try with_reducible rfl))
      (try simp only [Act.put, List.setIfInBounds_toArray, List.set_cons_zero, List.set_cons_succ])
      refine wpAnyM_take 5 (v := ?_) rfl (by kernel_rfl) (fun _ _ _ h => h) (Or.inl ⟨by rfl, ?_⟩) (by assumption) ?_
      rotate_left
      · (intro wx hSw; (try dsimp only at hSw); go_simp; (try with_reducible rfl))
      (try simp only [Act.put, List.setIfInBounds_toArray, List.set_cons_zero, List.set_cons_succ])
      refine wpAnyM_take 6 (v := ?_) rfl (by kernel_rfl) (fun _ _ _ h => h) (Or.inl ⟨by rfl, ?_⟩) (by assumption) ?_
      rotate_left
      · (intro wx hSw; (try dsimp only at hSw); go_simp; (try with_reducible rfl))
      (try simp only [Act.put, List.setIfInBounds_toArray, List.set_cons_zero, List.set_cons_succ])
      refine wpAnyM_take 7 (v := ?_) rfl (by kernel_rfl) (fun _ _ _ h => h) (Or.inl ⟨by rfl, ?_⟩) (by assumption) ?_
      rotate_left
      · (intro wx hSw; (try dsimp only at hSw); go_simp; (try with_reducible rfl))
      (try simp only [Act.put, List.setIfInBounds_toArray, List.set_cons_zero, List.set_cons_succ])
      refine wpAnyM_take 8 (v := ?_) rfl (by kernel_rfl) (fun _ _ _ h => h) (Or.inl ⟨by rfl, ?_⟩) (by assumption) ?_
      rotate_left
      · (intro wx hSw; (try dsimp only at hSw); go_simp; (try with_reducible rfl))
      (try simp only [Act.put, List.setIfInBounds_toArray, List.set_cons_zero, List.set_cons_succ])
      refine wpAnyM_take 9 (v := ?_) rfl (by kernel_rfl) (fun _ _ _ h => h) (Or.inl ⟨by rfl, ?_⟩) (by assumption) ?_
      rotate_left
      · (intro wx hSw; (try dsimp only at hSw); go_simp; (try with_reducible rfl))
      (try simp only [Act.put, List.setIfInBounds_toArray, List.set_cons_zero, List.set_cons_succ])
      refine wpAnyM_take 10 (v := ?_) rfl (by kernel_rfl) (fun _ _ _ h => h) (Or.inl ⟨by rfl, ?_⟩) (by assumption) ?_
      rotate_left
      · (intro wx hSw; (try dsimp only at hSw); go_simp; (try with_reducible rfl))
      (try simp only [Act.put, List.setIfInBounds_toArray, List.set_cons_zero, List.set_cons_succ])
      refine wpAnyM_take 11 (v := ?_) rfl (by kernel_rfl) (fun _ _ _ h => h) (Or.inl ⟨by rfl, ?_⟩) (by assumption) ?_
      rotate_left
      · (intro wx hSw; (try dsimp only at hSw); go_simp; (try with_reducible rfl))
      (try simp only [Act.put, List.setIfInBounds_toArray, List.set_cons_zero, List.set_cons_succ])
      refine wpAnyM_oneS 12 rfl (by kernel_rfl) (fun K hK => ?_)
      go_simp
      (refine (CL.out wr.drew rc rf).mono ?_); rintro e w2 ⟨rfl, hw2⟩; have U2 : Upd c (h || orB (clmP S) k || clmP S k) wr w2 := (by rw [← hw2, show clmP S k = clampH (S (4 + k)) (-M) M from by rw [← HME.out]; rfl]; exact Upd.after (Below.drew (Below.refl _ _)) (Upd.set c _ _)); have kp := keep2 U2 b0 x0 n0 n1; have S2 := Lib.hid (R.out.upd' hcb (by omega) U2); have kz := S2.out.blk.free (4 + k); clear U2 hw2
      (try dsimp only)
      (try simp only [Act.put, List.setIfInBounds_toArray, List.set_cons_zero, List.set_cons_succ])
      clear hHeld
      refine hK.out _ _ ?_ (fun hHeld => ?_)
      · exact kp
      clear hK K
      (try simp only [Act.put, List.setIfInBounds_toArray, List.set_cons_zero, List.set_cons_succ])
      refine wpAnyM_take 13 (v := ?_) rfl (by kernel_rfl) (fun _ _ _ h => h) (Or.inl ⟨by rfl, ?_⟩) (by assumption) ?_
      rotate_left
      · (intro wx hSw; (try dsimp only at hSw); go_simp; (try with_reducible rfl))
      (try simp only [Act.put, List.setIfInBounds_toArray, List.set_cons_zero, List.set_cons_succ])
      refine wpAnyM_one 14 rfl (by kernel_rfl) (fun K hK => ?_)
      go_simp
      refine hK.out _ _ (.inl (by kernel_rfl)) (fun _ => ?_)
      clear hK K
      (try simp only [Act.put, List.setIfInBounds_toArray, List.set_cons_zero, List.set_cons_succ])
      refine wpAnyM_done (by kernel_rfl) ?_ _
      clear hneg b0 x0 rc rf n0 n1 CL R
      go_wp2_with fail
      go_roundw
      case rel =>
        refine ⟨k + 1, by omega, by congr 1 <;> omega, ⟨?_, ?_, S2.out.res.other (by simp) _, S2.out.box.other (by simp; omega) _⟩⟩
        · rw [show (h || orB (clmP S) (k + 1)) = (h || orB (clmP S) k || clmP S k) from by simp [orB, Bool.or_assoc]]
          exact S2.out.upd.setCell (Nat.le_refl _) _
        · refine (S2.out.blk.set _ _).congr fun i hi => ?_
          simp only [Go.Proofs.Ytcbklolfibdffaa.upd, clmI]
          by_cases h1 : i = 4 + k
          · subst h1; rw [if_pos rfl, if_pos (by omega)]; simp only [clmF]; rw [if_neg (by omega), HME.out]
          · rw [if_neg h1]; split <;> split <;> first | rfl | omega
      case measure => simp [intOf]; omega
    · have hk20 : k = 20 := by omega
      subst hk20
      have B0 := R.out.blk
      have B1 := R.out.res
      have U := Lib.hid R.out.upd
      clear R hlt hk
      rw [show (4 + ((20 : Nat) : Int)) = 24 from rfl]
      go_wp2_with (first | (refine wpList_load_row rfl 27 _ rfl (w.heap.size) rfl 27 _ (0, 0) _ (B0) Try.underlying27 rfl (ist.trans (by rw [arrv_size])) ?_) | (refine wpList_store_row rfl 27 _ _ rfl (w.heap.size + 1) _ rfl rfl 27 _ (B1) (ist.trans (by rw [arrv_size])) (by rw [arrv_size, arrv_size]) (oneCell_arrv _ _) ?_))
      refine bodyPost_ret (results_cell_row Try.results19 _ _ (w.heap.size + 1) 27 (arrv 24 (clmI S 20)) (0, 0) _ rfl (setRow_heap _ _ _ _ _ _ B1) Try.underlying27 rfl (ist.trans (by rw [arrv_size]))) rfl ⟨?_, ?_⟩
      · rw [arrv_congr (g := clmF S) fun i hi => by simp only [clmI]; rw [if_pos (by omega)]]
      · exact U.out.then' (below_row (Below.refl _ _) (by omega) _)
end Go.Proofs.Ytcbklolfibdffaa
