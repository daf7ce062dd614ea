/- Contracts of the program's functions and plain laws, part 20: they hold for all arguments. -/
import Derived.Test.YtgfklheepkgedaaGreatQ19
import Derived.Test.YtgfklheepkgedaaGreatQ18
import Derived.Test.YtgfklheepkgedaaGreatQ03
import Derived.Test.YtgfklheepkgedaaGreatQ09
import Derived.Test.YtgfklheepkgedaaGreatQ10
import Derived.Test.YtgfklheepkgedaaGreatQ04
/- Contract of the document's jump (chapter 26). -/
namespace Go.Proofs.YtgfklheepkgedaaGreat
open Go.RowKit
set_option maxRecDepth 100000
/-- The blocks of jump: the estimate, its result, the slice of what changed. -/
structure JuR (c : Addr) (h : Bool) (F : Nat → Int) (v : Value) (k : Nat) (D : Nat → Int) (w wr : World) : Prop where
 upd : Upd c h w wr
 s : Blk wr w.heap.size 23 24 F
 r : Blk wr (w.heap.size + 1) 23 24 (fun _ => 0)
 own : Own wr (w.heap.size + 1 + 1) 2 v k D
theorem JuR.upd' {c : Addr} {h h' : Bool} {F : Nat → Int} {v : Value} {k : Nat} {D : Nat → Int} {w wr w' : World} (s : JuR c h F v k D w wr) (hc : c.block < w.heap.size) (u : Upd c h' wr w') : JuR c h' F v k D w w' := by
 exact ⟨s.upd.trans u, s.s.upd u (by omega), s.r.upd u (by omega), s.own.upd u (by omega)⟩
theorem JuR.down {c : Addr} {h : Bool} {F : Nat → Int} {v : Value} {k : Nat} {D : Nat → Int} {w wr w' : World} (s : JuR c h F v k D w wr) (u : Below wr.heap.size wr w') : JuR c h F v k D w w' :=
 ⟨s.upd.then u, s.s.below u, s.r.below u, s.own.below u⟩
theorem JuR.drew {c : Addr} {h : Bool} {F : Nat → Int} {v : Value} {k : Nat} {D : Nat → Int} {w wr : World} (s : JuR c h F v k D w wr) : JuR c h F v k D w wr.drew := s.down (Below.drew (Below.refl _ _))
theorem JuR.set {c : Addr} {h : Bool} {F : Nat → Int} {v : Value} {k : Nat} {D : Nat → Int} {w wr : World} (s : JuR c h F v k D w wr) (i : Nat) (x : Int) : JuR c h (Go.Proofs.YtgfklheepkgedaaGreat.upd F i x) v k D w (wr.setCell ⟨w.heap.size, i, none⟩ (.int .i64 x)) := by
 exact ⟨s.upd.setCell (Nat.le_refl _) _, s.s.set i x, s.r.other (by simp) _, s.own.kept fun k hk _ _ => heap_setCell_other _ _ k _ (by simp; omega)⟩
theorem JuR.grown {c : Addr} {h : Bool} {F : Nat → Int} {v v' : Value} {k : Nat} {D : Nat → Int} {w wr w' : World} (s : JuR c h F v k D w wr) (g : wr.grownBy w' v.ownBlock) (ho : Own w' (w.heap.size + 1 + 1) 2 v' (k + 1) D) : JuR c h F v' (k + 1) D w w' := by
 have hb : ∀ j, j < w.heap.size + 1 + 1 → j < wr.heap.size → w'.heap[j]? = wr.heap[j]? := fun j hk hl => g.block j hl (fun e => by have := (ownBlock_lt3 s.own e.symm).1; omega)
 refine ⟨s.upd.then' (below_grown (Below.refl _ _) g (fun k e => by have := (ownBlock_lt3 s.own e).1; omega) s.upd.size), ?_, ?_, ho⟩
 ·exact (hb _ (by omega) s.s.lt).trans s.s
 ·exact (hb _ (by omega) s.r.lt).trans s.r
theorem ju_start (c : Addr) (h : Bool) (S D : Nat → Int) (w : World) (hc : w.cell? c = some (.bool h)) :
  JuR c h S (.slice none 0 0) 0 D w ((w.alloc (.cells (arrv 24 S) 23)).alloc (.cells #[.int .i64 0, .int .i64 0, .int .i64 0, .int .i64 0, .int .i64 0, .int .i64 0, .int .i64 0, .int .i64 0, .int .i64 0, .int .i64 0, .int .i64 0, .int .i64 0, .int .i64 0, .int .i64 0, .int .i64 0, .int .i64 0, .int .i64 0, .int .i64 0, .int .i64 0, .int .i64 0, .int .i64 0, .int .i64 0, .int .i64 0, .int .i64 0] 23)) := by
 refine ⟨Upd.then (Upd.refl hc) (by (repeat (first | with_reducible exact Below.refl _ _ | with_reducible apply Below.drew | (with_reducible refine below_drewN ?_ _) | (with_reducible refine Below.alloc ?_ (by (try simp) <;> omega) _) | (with_reducible refine Below.setCell ?_ (by (try simp) <;> omega) _)))), (Blk.new w _ 24 _).alloc _, ?_, Own.nil _ _ _ _⟩
 rw [zvec24]; exact Blk.new1 w _ _ 24 _
set_option maxHeartbeats 8000000 in
theorem rjump_any (c : Addr) (h : Bool) (S : Nat → Int) (fr : Nat) (p : Option Addr) (n cp : Nat) (L : Nat → Int) (w : World) (hc : w.cell? c = some (.bool h)) (hf : w.frozen? c = false) (hL : Slc w p n L) (hn : fr + n ≤ 24) :
  Calls Tryz.prog 36 #[.pointer (some c), .agg (arrv 24 S), .int .i64 (fr : Int), .slice p n cp] w fun e w' =>
   ∃ v, e = .returned (.tuple #[.agg (arrv 24 (mvS S fr L n)), v]) ∧ Own w' w.heap.size 2 v n (mvD S fr L) ∧ Upd c (h || orB (mvB S fr L) n) w w' := by
 have hcb := World.block_lt_of_cell? w c hc
 have S1 := Lib.hid (ju_start c h S (mvD S fr L) w hc)
 have HC := Lib.hid hc
 have HF := Lib.hid hf
 have HL := Lib.hid hL
 clear hc hf hL
 go_enter Tryz.func36, Tryz.ntmps36
 go_upto_region 1 with fail
 generalize (w.alloc (.cells (arrv 24 S) 23)).alloc (.cells #[.int .i64 0, .int .i64 0, .int .i64 0, .int .i64 0, .int .i64 0, .int .i64 0, .int .i64 0, .int .i64 0, .int .i64 0, .int .i64 0, .int .i64 0, .int .i64 0, .int .i64 0, .int .i64 0, .int .i64 0, .int .i64 0, .int .i64 0, .int .i64 0, .int .i64 0, .int .i64 0, .int .i64 0, .int .i64 0, .int .i64 0, .int .i64 0] 23) = W1 at *
 go_wp2_with fail
 go_loopw [10, 11] (fun v0 i wr => ∃ (k : Nat) (v : Value), k ≤ n ∧ i = .int .i64 k ∧ v = v0 ∧ Hid (JuR c (h || orB (mvB S fr L) k) (mvS S fr L k) v k (mvD S fr L) w wr)) (fun _ i _ => n - (intOf i).toNat)
 case atStart =>
  refine ⟨0, _, by omega, rfl, rfl, ?_⟩
  rw [show (h || orB (mvB S fr L) 0) = h from by simp [orB]]
  exact S1
 case round =>
  obtain ⟨k, v, hk, rfl, rfl, R⟩ := hrel
  clear S1
  by_cases hlt : k < n
  ·have d1 : decide (k < n) = true := by simpa using hlt
   have d2 : decide ((k : Int) < (n : Int)) = true := by simp; omega
   obtain ⟨pb, po, rfl, hcell⟩ := HL.out k hlt
   have hne : (⟨pb, po + k, none⟩ : Addr) ≠ c := fun e => by rw [e, HC.out] at hcell; cases hcell
   have hpl := World.block_lt_of_cell? _ _ hcell
   have hcell' : wr.cell? ⟨pb, po + k, none⟩ = some (.int .i64 (L k)) := (R.out.upd.cell hpl (Ne.symm hne)).trans hcell
   have k0 : (0 : Int) ≤ (k : Int) := Int.natCast_nonneg _
   have k1 : (k : Int) < (n : Int) := by omega
   have FL := mv_flag h S fr L k
   have FS : mvS S fr L (k + 1) = Go.Proofs.YtgfklheepkgedaaGreat.upd (mvS S fr L k) (fr + k) (mvX fr L k) := rfl
   have FD : mvD S fr L k = satV (satV (mvX fr L k) - satV (S (fr + k))) := rfl
   have FX : mvX fr L k = clampV (L k) (-(boxF (fr + k))) (boxF (fr + k)) := rfl
   have FF : mvS S fr L k (fr + k) = S (fr + k) := by rw [mvS_at, if_neg (by omega)]
   obtain ⟨j, hj⟩ : ∃ j : Nat, fr + k = j := ⟨_, rfl⟩
   have kw : IntKind.i64.wrap ((fr : Int) + (k : Int)) = (j : Int) := by rw [← hj, Int.natCast_add]; exact IntWalk.i64_in _ (by omega)
   have j24 : j < 24 := by omega
   have j0 : (0 : Int) ≤ (j : Int) := Int.natCast_nonneg _
   have j1 : (j : Int) < 24 := by omega
   have hM := boxF_pos j
   rw [hj] at FL FS FD FX FF
   obtain ⟨F, hF⟩ : ∃ x, mvS S fr L k = x := ⟨_, rfl⟩
   obtain ⟨D, hD⟩ : ∃ x, mvD S fr L = x := ⟨_, rfl⟩
   obtain ⟨H, hH⟩ : ∃ x, (h || orB (mvB S fr L) k) = x := ⟨_, rfl⟩
   obtain ⟨x, hx⟩ : ∃ x, L k = x := ⟨_, rfl⟩
   obtain ⟨M, hMe⟩ : ∃ M, boxF j = M := ⟨_, rfl⟩
   obtain ⟨y, hy⟩ : ∃ y, mvX fr L k = y := ⟨_, rfl⟩
   obtain ⟨z, hz⟩ : ∃ z, S j = z := ⟨_, rfl⟩
   rw [hx] at hcell'
   rw [hF, hD, hH] at R
   rw [hH, hx, hMe, hy, hz] at FL
   rw [hF, hy] at FS
   rw [hD, hy, hz] at FD
   rw [hx, hMe, hy] at FX
   rw [hF, hz] at FF
   rw [hMe] at hM
   obtain ⟨d, hd⟩ : ∃ d, satV (satV y - satV z) = d := ⟨_, rfl⟩
   rw [hd] at FD
   have hneg := neg_in M (by omega)
   have BC := fun (x : World) => rbound_any j x j24
   rw [hMe] at BC
   have BC := Lib.hid BC
   have GX := Lib.hid FX.symm
   have GL := Lib.hid FL
   have GS := Lib.hid FS
   have GD := Lib.hid FD
   have GZ := Lib.hid hd
   have GF := Lib.hid FF
   have HME := Lib.hid hMe
   have HDD := Lib.hid hD
   clear FX FL FS FD FF hj hF hD hH hx hMe hy hz hM hcell hne hpl hd
   go_upto_region 5 with fail
   refine wp_region_lit ?_
   refine tv ?_
   (try simp only [Act.put, nA, nB, nC])
   refine tv ?_
   (try simp only [Act.put, nA, nB, nC])
   refine wpList_val (v := ?_) rfl ?_ ?_
   rotate_left
   ·(go_simp; (try rw [kw]); (try with_reducible rfl))
   (try simp only [Act.put, nA, nB, nC])
   refine wpList_step (fun K hK => ?_)
   go_simp
   (refine (BC.out _).mono ?_); rintro e w5 ⟨rfl, rfl⟩
   (try dsimp only)
   (try simp only [Act.put, nA, nB, nC])
   refine hK _ _ ?_
   clear hK K
   refine tv ?_
   (try simp only [Act.put, nA, nB, nC])
   refine wpList_nil ?_
   go_upto_region 6 with fail
   have HS := Lib.hid R.out.drew
   have HQ := Lib.hid (show wr.drew.cell? ⟨pb, po + k, none⟩ = some (.int .i64 x) from hcell')
   clear R hcell'
   refine wp_region_M (fun w' => w'.cell? ⟨pb, po + k, none⟩ = some (.int .i64 x)) 10 (by kernel_rfl) ?_ (fun hHeld => ?_)
   ·exact HQ.out
   refine wpAnyM_takeW 0 (v := ?_) rfl (by kernel_rfl) (fun _ _ _ h => h) (Or.inl ⟨by rfl, ?_⟩) (.inr (by assumption)) ?_
   rotate_left
   ·(intro wx hSw; (try dsimp only at hSw); go_simp; (try with_reducible rfl))
   (try simp only [Act.put, nA, nB, nC])
   refine wpAnyM_takeW 1 (v := ?_) rfl (by kernel_rfl) (fun _ _ _ h => h) (Or.inl ⟨by rfl, ?_⟩) (.inr (by assumption)) ?_
   rotate_left
   ·(intro wx hSw; (try dsimp only at hSw); go_simp; (try with_reducible rfl))
   (try simp only [Act.put, nA, nB, nC])
   refine tk 2 ?_
   (try simp only [Act.put, nA, nB, nC])
   refine wpAnyM_takeW 3 (v := ?_) rfl (by kernel_rfl) (fun _ _ _ h => h) (Or.inl ⟨by rfl, ?_⟩) (.inr (by assumption)) ?_
   rotate_left
   ·(intro wx hSw; (try dsimp only at hSw); go_simp; (try with_reducible rfl))
   (try simp only [Act.put, nA, nB, nC])
   refine wpAnyM_takeW 4 (v := ?_) rfl (by kernel_rfl) (fun _ _ _ h => h) (Or.inl ⟨by rfl, ?_⟩) (.inr (by assumption)) ?_
   rotate_left
   ·(intro wx hSw; (try dsimp only at hSw); go_simp; (try with_reducible rfl))
   (try simp only [Act.put, nA, nB, nC])
   refine wpAnyM_takeW 5 (v := ?_) rfl (by kernel_rfl) (fun _ _ _ h => h) (Or.inl ⟨by rfl, ?_⟩) (.inr (by assumption)) ?_
   rotate_left
   ·(intro wx hSw; (try dsimp only at hSw); go_simp; (try with_reducible rfl))
   (try simp only [Act.put, nA, nB, nC])
   refine tk 6 ?_
   (try simp only [Act.put, nA, nB, nC])
   refine wpAnyM_takeW 7 (v := ?_) rfl (by kernel_rfl) (fun _ _ _ h => h) (Or.inl ⟨by rfl, ?_⟩) (.inr (by assumption)) ?_
   rotate_left
   ·(intro wx hSw; (try dsimp only at hSw); go_simp; (try with_reducible rfl))
   (try simp only [Act.put, nA, nB, nC])
   refine tl 8 (v := ?_) ?_ ?_
   rotate_left
   ·(intro wx hSw; (try dsimp only at hSw); go_simp; (try rw [hneg]); (try with_reducible rfl))
   (try simp only [Act.put, nA, nB, nC])
   refine tk 9 ?_
   (try simp only [Act.put, nA, nB, nC])
   refine wpAnyM_one 10 rfl (by kernel_rfl) (fun K hK => ?_)
   go_simp
   (refine (rclamp_any c H x (-M) M _ (HS.out.upd.cellc HC.out) ((HS.out.upd.frozen hcb).trans HF.out)).mono ?_); (rw [GX.out]); rintro e w2 ⟨rfl, hw2⟩; have HU := Lib.hid (HS.out.upd' hcb (show Upd c (H || clampH x (-M) M) wr.drew w2 from by rw [← hw2]; exact Upd.set c _ _)); clear hw2 HS; have HS := HU; clear HU
   (try dsimp only)
   (try simp only [Act.put, nA, nB, nC])
   refine hK.out _ _ (.inl (by kernel_rfl)) (fun _ => ?_)
   clear hK K
   (try simp only [Act.put, nA, nB, nC])
   refine wpAnyM_takeW 11 (v := ?_) rfl (by kernel_rfl) (fun _ _ _ h => h) (Or.inl ⟨by rfl, ?_⟩) (.inl (by kernel_rfl)) ?_
   rotate_left
   ·(intro wx hSw; (try dsimp only at hSw); go_simp; (try with_reducible rfl))
   (try simp only [Act.put, nA, nB, nC])
   refine wpAnyM_done (by kernel_rfl) ?_ _
   go_upto_region 7 with fail
   have sc := HS.out.s.cell (i := j) j24
   rw [GF.out] at sc
   have HT := Lib.hid HS.out.drew
   clear HS HQ
   have HS := HT
   clear HT
   have sc' := Lib.hid (show w2.drew.cell? ⟨w.heap.size, j, none⟩ = some (.int .i64 z) from sc)
   clear sc
   refine wp_region_M (fun w' => w'.cell? ⟨w.heap.size, j, none⟩ = some (.int .i64 z)) 10 (by kernel_rfl) ?_ (fun hHeld => ?_)
   ·exact sc'.out
   refine wpAnyM_takeW 0 (v := ?_) rfl (by kernel_rfl) (fun _ _ _ h => h) (Or.inl ⟨by rfl, ?_⟩) (.inr (by assumption)) ?_
   rotate_left
   ·(intro wx hSw; (try dsimp only at hSw); go_simp; (try with_reducible rfl))
   (try simp only [Act.put, nA, nB, nC])
   refine wpAnyM_takeW 1 (v := ?_) rfl (by kernel_rfl) (fun _ _ _ h => h) (Or.inl ⟨by rfl, ?_⟩) (.inr (by assumption)) ?_
   rotate_left
   ·(intro wx hSw; (try dsimp only at hSw); go_simp; (try with_reducible rfl))
   (try simp only [Act.put, nA, nB, nC])
   refine wpAnyM_takeW 2 (v := ?_) rfl (by kernel_rfl) (fun _ _ _ h => h) (Or.inl ⟨by rfl, ?_⟩) (.inr (by assumption)) ?_
   rotate_left
   ·(intro wx hSw; (try dsimp only at hSw); go_simp; (try with_reducible rfl))
   (try simp only [Act.put, nA, nB, nC])
   refine tk 3 ?_
   (try simp only [Act.put, nA, nB, nC])
   refine tk 4 ?_
   (try simp only [Act.put, nA, nB, nC])
   refine wpAnyM_takeW 5 (v := ?_) rfl (by kernel_rfl) (fun _ _ _ h => h) (Or.inl ⟨by rfl, ?_⟩) (.inr (by assumption)) ?_
   rotate_left
   ·(intro wx hSw; (try dsimp only at hSw); go_simp; (try with_reducible rfl))
   (try simp only [Act.put, nA, nB, nC])
   refine wpAnyM_takeW 6 (v := ?_) rfl (by kernel_rfl) (fun _ _ _ h => h) (Or.inl ⟨by rfl, ?_⟩) (.inr (by assumption)) ?_
   rotate_left
   ·(intro wx hSw; (try dsimp only at hSw); go_simp; (try with_reducible rfl))
   (try simp only [Act.put, nA, nB, nC])
   refine wpAnyM_takeW 7 (v := ?_) rfl (by kernel_rfl) (fun _ _ _ h => h) (Or.inl ⟨by rfl, ?_⟩) (.inr (by assumption)) ?_
   rotate_left
   ·(intro wx hSw; (try dsimp only at hSw); go_simp; (try rw [kw]); (try with_reducible rfl))
   (try simp only [Act.put, nA, nB, nC])
   refine wpAnyM_takeW 8 (v := ?_) rfl (by kernel_rfl) (fun _ _ _ h => h) (Or.inl ⟨by rfl, ?_⟩) (.inr (by assumption)) ?_
   rotate_left
   ·(intro wx hSw; (try dsimp only at hSw); go_simp; (try with_reducible rfl))
   (try simp only [Act.put, nA, nB, nC])
   refine tk 9 ?_
   (try simp only [Act.put, nA, nB, nC])
   refine wpAnyM_one 10 rfl (by kernel_rfl) (fun K hK => ?_)
   go_simp
   (refine (rsub_any c _ y z _ (HS.out.upd.cellc HC.out) ((HS.out.upd.frozen hcb).trans HF.out)).mono ?_); (rw [GZ.out]); rintro e w3 ⟨rfl, hw3⟩; have HU := Lib.hid (HS.out.upd' hcb (show Upd c (H || clampH x (-M) M || satH y || satH z || satH (satV y - satV z)) w2.drew w3 from by rw [← hw3]; exact Upd.set c _ _)); clear hw3 HS; have HS := HU; clear HU; (rw [GL.out] at HS); have HA := Lib.hid (HS.out.down ((Below.refl _ _).alloc (Nat.le_refl _) (.cells #[.int .i64 d] 2))); have hbz := HS.out.r.lt
   (try dsimp only)
   (try simp only [Act.put, nA, nB, nC])
   refine hK.out _ _ (.inl (by kernel_rfl)) (fun _ => ?_)
   clear hK K
   (try simp only [Act.put, nA, nB, nC])
   refine wpAnyM_one 11 rfl (by kernel_rfl) (fun K hK => ?_)
   go_simp
   refine hK.out _ _ (.inl (by kernel_rfl)) (fun _ => ?_)
   clear hK K
   (try simp only [Act.put, nA, nB, nC])
   refine wpAnyM_one 12 rfl (by kernel_rfl) (fun K hK => ?_)
   refine step_app1 rfl (.tmp 35) (.tmp 46) rfl (w.heap.size + 1 + 1) rfl HA.out.own w3.heap.size 1 d rfl (by simp [go_sem]) (by omega) (by simp; omega) (w3.heap.size + 1) (by simp) ?_; intro g1 cp1 w4 hO1 hg1 hat1 hlt1; have HG := Lib.hid (HA.out.grown hg1 (hO1.congr (snoc_fun3 GD.out.symm))); clear hO1 hg1 hat1 hlt1 HA HS hbz
   refine hK.out _ _ (.inl (by kernel_rfl)) (fun _ => ?_)
   clear hK K
   (try simp only [Act.put, nA, nB, nC])
   refine wpAnyM_takeW 13 (v := ?_) rfl (by kernel_rfl) (fun _ _ _ h => h) (Or.inl ⟨by rfl, ?_⟩) (.inl (by kernel_rfl)) ?_
   rotate_left
   ·(intro wx hSw; (try dsimp only at hSw); go_simp; (try with_reducible rfl))
   (try simp only [Act.put, nA, nB, nC])
   refine wpAnyM_done (by kernel_rfl) ?_ _
   go_upto_region 8 with fail
   have sf := HG.out.s.free j
   have sc := HG.out.s.cell (i := j) j24
   refine wp_region_lit ?_
   refine tv ?_
   (try simp only [Act.put, nA, nB, nC])
   refine tv ?_
   (try simp only [Act.put, nA, nB, nC])
   refine wpList_val (v := ?_) rfl ?_ ?_
   rotate_left
   ·(go_simp; (try rw [kw]); (try with_reducible rfl))
   (try simp only [Act.put, nA, nB, nC])
   refine tv ?_
   (try simp only [Act.put, nA, nB, nC])
   refine tv ?_
   (try simp only [Act.put, nA, nB, nC])
   refine wpList_done (w' := ?_) rfl ?_ ?_
   rotate_left
   ·(go_simp; (try (first | with_reducible rfl | (constructor <;> with_reducible rfl))))
   (try simp only [Act.put, nA, nB, nC])
   refine wpList_nil ?_
   have HK := Lib.hid (HG.out.set j y)
   rw [← GS.out, ← HDD.out] at HK
   generalize w4.setCell ⟨w.heap.size, j, none⟩ (.int .i64 y) = W5 at *
   clear sf sc HG
   go_wp2_with fail
   go_roundw
   case rel => exact ⟨k + 1, _, by omega, by go_num, rfl, HK⟩
   case measure => simp [intOf]; omega
  ·obtain rfl : k = n := by omega
   have d1 : decide (k < k) = false := by simp
   have d2 : decide ((k : Int) < (k : Int)) = false := by simp
   obtain ⟨F, hF⟩ : ∃ x, mvS S fr L k = x := ⟨_, rfl⟩
   obtain ⟨D, hD⟩ : ∃ x, mvD S fr L = x := ⟨_, rfl⟩
   obtain ⟨H, hH⟩ : ∃ x, (h || orB (mvB S fr L) k) = x := ⟨_, rfl⟩
   rw [hF, hD, hH] at R
   have HE := Lib.hid (And.intro hF (And.intro hD hH))
   clear hF hD hH
   have P0 := R.out.s
   have P1 := R.out.r
   go_upto_region 9 with fail
   refine wp_region_lit ?_
   refine wpList_val (v := ?_) rfl ?_ ?_
   rotate_left
   ·refine Eq.trans (run_load_row 23 (.tmp 5) (by rfl) (w.heap.size) (by rfl) _ _ _ _ (P0) Tryz.underlying23 rfl (ist.trans (by rw [arrv_size]))) ?_; with_reducible rfl
   (try simp only [Act.put, nA, nB, nC])
   refine tv ?_
   (try simp only [Act.put, nA, nB, nC])
   refine wpList_done (w' := ?_) rfl ?_ ?_
   rotate_left
   ·refine Eq.trans (run_store_row 23 (.tmp 8) (.tmp 53) (by rfl) (w.heap.size + 1) (by rfl) (by rfl) (P1) (ist.trans rfl)) ?_; with_reducible rfl
   (try simp only [Act.put, nA, nB, nC])
   refine tv ?_
   (try simp only [Act.put, nA, nB, nC])
   refine wpList_nil ?_
   have D1 := Lib.hid (P1.setRow F)
   have DU := Lib.hid (R.out.upd.then' (below_row (Below.refl _ _) (show w.heap.size ≤ w.heap.size + 1 by omega) (arrv 24 F)))
   have DO := Lib.hid (R.out.own.rowk (k := w.heap.size + 1) (arrv 24 F) (by omega))
   generalize wr.setRow (w.heap.size + 1) (arrv 24 F) = W3 at *
   clear P1 P0 R
   go_wp2_with fail
   refine bodyPost_ret_by (results_row1 Tryz.results36 _ _ (w.heap.size + 1) 23 (arrv 24 F) (0, 0) _ rfl D1.out Tryz.underlying23 rfl (ist.trans (by rw [arrv_size])) v rfl) rfl ⟨v, ?_, ?_, ?_⟩
   ·rw [HE.out.1]
   ·rw [HE.out.2.1]; exact DO.out.raise (by omega)
   ·rw [HE.out.2.2]; exact DU.out
end Go.Proofs.YtgfklheepkgedaaGreat
/- Contracts of the reference's scalars (10): MulDiv. -/
namespace Go.Proofs.YtgfklheepkgedaaGreat
open Go.RowKit
set_option maxRecDepth 100000
end Go.Proofs.YtgfklheepkgedaaGreat
/- Contracts of the reference's scalars (11): Dot. -/
namespace Go.Proofs.YtgfklheepkgedaaGreat
open Go.RowKit
set_option maxRecDepth 100000
/-- What holds at the head of a round of the reference's Dot. -/
structure RDotR (c : Addr) (h : Bool) (A B : Nat → Int) (w : World) (k : Nat) (M : Nat) (m : Bool) (wr : World) : Prop where
 upd : Upd c (h || dotB A B k) w wr
 s : Wid wr w.heap.size M m
 e : sv m M = dotS A B k
 b : M ≤ k * 1329227995784915872903807060280344576
theorem adM_le (m n : Bool) (M N : Nat) : adM m n M N ≤ M + N := by unfold adM; split <;> (try split) <;> omega
set_option maxHeartbeats 4000000 in
theorem rdot30_in (c : Addr) (h : Bool) (A B : Nat → Int) (pa oa ca pb ob cb n : Nat) (w : World) (hc : w.cell? c = some (.bool h)) (hf : w.frozen? c = false)
  (hn : n ≤ 100)
  (hA : ∀ i, i < n → w.cell? ⟨pa, oa + i, none⟩ = some (.int .i64 (A i))) (hB : ∀ i, i < n → w.cell? ⟨pb, ob + i, none⟩ = some (.int .i64 (B i))) :
  Calls Tryz.prog 68 #[.pointer (some c), .int .i64 30, .slice (some ⟨pa, oa, none⟩) n ca, .slice (some ⟨pb, ob, none⟩) n cb] w fun e w' =>
   e = .returned (.int .i64 (satV (rsh (dotS A B n) 30))) ∧ Upd c (h || dotB A B n || satH (rsh (dotS A B n) 30)) w w' := by
 have hcb := World.block_lt_of_cell? w c hc
 have HA := Lib.hid hA
 have HB := Lib.hid hB
 have HC := Lib.hid hc
 have HF := Lib.hid hf
 have R0 : Hid (RDotR c h A B w 0 0 false (w.alloc (.cells #[.int .u64 0, .int .u64 0, .bool false] 137))) := by
  refine Lib.hid ⟨?_, ?_, by simp [sv, dotS], by omega⟩
  ·rw [show (h || dotB A B 0) = h from by simp [dotB]]
   exact Upd.then (Upd.refl hc) (by (repeat (first | with_reducible exact Below.refl _ _ | with_reducible apply Below.drew | (with_reducible refine below_drewN ?_ _) | (with_reducible refine Below.alloc ?_ (by (try simp) <;> omega) _) | (with_reducible refine Below.setCell ?_ (by (try simp) <;> omega) _))))
  ·have := Wid.new w 0 false
   rw [show hi64 0 = 0 by decide, show lo64 0 = 0 by decide] at this
   exact this
 clear hA hB hc hf
 go_enter Tryz.func68, Tryz.ntmps68
 go_upto_region 3 with fail
 generalize w.alloc (.cells #[.int .u64 0, .int .u64 0, .bool false] 137) = W0 at *
 go_wp2_with fail
 go_loopw [10] (fun i wr => ∃ (k M : Nat) (m : Bool), k ≤ n ∧ i = .int .i64 k ∧ Hid (RDotR c h A B w k M m wr)) (fun i _ => n - (intOf i).toNat)
 case atStart => exact ⟨0, 0, false, Nat.zero_le _, rfl, R0⟩
 case round =>
  obtain ⟨k, M, m, hk, rfl, R⟩ := hrel
  clear R0
  by_cases hlt : k < n
  ·have q1 : decide (k < n) = true := by simpa using hlt
   have q2 : decide ((k : Int) < 100) = true := by simp; omega
   have a0 := HA.out k hlt
   have b0 := HB.out k hlt
   have u := R.out.upd
   have ra : wr.cell? ⟨pa, oa + k, none⟩ = some (.int .i64 (A k)) := (u.cell (World.block_lt_of_cell? w _ a0) (ne_of_cells HC.out a0)).trans a0
   have rb : wr.cell? ⟨pb, ob + k, none⟩ = some (.int .i64 (B k)) := (u.cell (World.block_lt_of_cell? w _ b0) (ne_of_cells HC.out b0)).trans b0
   have rc : wr.cell? c = some (.bool (h || dotB A B k)) := u.cellc HC.out
   have rf : wr.frozen? c = false := (u.frozen hcb).trans HF.out
   have hs := R.out.s
   obtain ⟨⟨s0, s1, s2⟩, t0, t1, t2⟩ := hs.c
   have la := World.block_lt_of_cell? wr _ ra
   have lb := World.block_lt_of_cell? wr _ rb
   have ls := hs.lt
   have na := ne_of_cells rc ra
   have nb := ne_of_cells rc rb
   have nS : ∀ o, c ≠ ⟨w.heap.size, o, none⟩ := fun o e => by rw [e] at hcb; simp at hcb
   obtain ⟨P, hP⟩ : ∃ P, (satV (A k)).natAbs * (satV (B k)).natAbs = P := ⟨_, rfl⟩
   obtain ⟨g, hg⟩ : ∃ g, sg2 (satV (A k)) (satV (B k)) = g := ⟨_, rfl⟩
   have hPb : P ≤ 1329227995784915872903807060280344576 := by rw [← hP]; exact abs_prod_bd _ _
   have hMb : M ≤ 132922799578491587290380706028034457600 := Nat.le_trans R.out.b (Nat.le_trans (Nat.mul_le_mul_right _ (by omega : k ≤ 100)) (by decide))
   have MU := Lib.hid (fun w => rmul_any (satV (A k)) (satV (B k)) (P : Int) w (satV_bd _).1 (satV_bd _).2 (satV_bd _).1 (satV_bd _).2 (by rw [← hP]; simp))
   rw [hg] at MU
   have AD := Lib.hid (fun w => radd_any M P m g w (by omega))
   have HE := Lib.hid (show sv (adS m g M P) (adM m g M P) = dotS A B (k + 1) ∧ adM m g M P ≤ (k + 1) * 1329227995784915872903807060280344576 by
    refine ⟨?_, ?_⟩
    ·rw [sv_add, R.out.e, ← hg, sg2_mul _ _ P hP]; rfl
    ·have := adM_le m g M P; have := R.out.b; omega)
   obtain ⟨N, hN⟩ : ∃ N, adM m g M P = N := ⟨_, rfl⟩
   obtain ⟨n', hn'⟩ : ∃ n', adS m g M P = n' := ⟨_, rfl⟩
   rw [hN, hn'] at AD HE
   obtain ⟨x, hx⟩ : ∃ x, satV (A k) = x := ⟨_, rfl⟩
   obtain ⟨y, hy⟩ : ∃ y, satV (B k) = y := ⟨_, rfl⟩
   rw [hx, hy] at MU
   have g1 : (wr.drew.setCell c (.bool (h || dotB A B k || satH (A k)))).cell? c = some (.bool (h || dotB A B k || satH (A k))) := World.cell?_setCell_same _ _ _ rc
   have U2 : Upd c (h || dotB A B k || satH (A k) || satH (B k)) wr ((wr.drew.setCell c (.bool (h || dotB A B k || satH (A k)))).setCell c (.bool (h || dotB A B k || satH (A k) || satH (B k)))) :=
    Upd.trans (Upd.after (Below.drew (Below.refl _ _)) (Upd.set c _ wr.drew)) (Upd.set c _ _)
   have H2 := Lib.hid U2
   have G1 := Lib.hid g1
   have HU := Lib.hid u
   have HS := Lib.hid hs
   clear U2 g1 u hs hP hg hPb hMb hN hn' a0 b0
   go_upto_region 5 with fail
   refine wp_region_M (fun w' => w'.cell? ⟨pa, oa + k, none⟩ = some (.int .i64 (A k)) ∧ w'.cell? ⟨pb, ob + k, none⟩ = some (.int .i64 (B k)) ∧ w'.cell? ⟨w.heap.size, 0, none⟩ = some (.int .u64 (hi64 (M : Int))) ∧ w'.cell? ⟨w.heap.size, 1, none⟩ = some (.int .u64 (lo64 (M : Int))) ∧ w'.cell? ⟨w.heap.size, 2, none⟩ = some (.bool m)) 15 (by kernel_rfl) ?_ (fun hHeld => ?_)
   ·exact ⟨ra, rb, s0, s1, s2⟩
   refine tk 0 ?_
   (try simp only [Act.put, nA, nB, nC])
   refine tk 1 ?_
   (try simp only [Act.put, nA, nB, nC])
   refine tk 2 ?_
   (try simp only [Act.put, nA, nB, nC])
   refine tk 3 ?_
   (try simp only [Act.put, nA, nB, nC])
   refine tk 4 ?_
   (try simp only [Act.put, nA, nB, nC])
   refine tk 5 ?_
   (try simp only [Act.put, nA, nB, nC])
   refine tk 7 ?_
   (try simp only [Act.put, nA, nB, nC])
   refine tk 8 ?_
   (try simp only [Act.put, nA, nB, nC])
   refine tk 9 ?_
   (try simp only [Act.put, nA, nB, nC])
   refine tk 10 ?_
   (try simp only [Act.put, nA, nB, nC])
   refine tk 11 ?_
   (try simp only [Act.put, nA, nB, nC])
   refine wpAnyM_oneS 6 rfl (by kernel_rfl) (fun K hK => ?_)
   go_simp
   (refine (rsat_any c (h || dotB A B k) (A k) wr.drew rc rf).mono ?_); rintro e w' ⟨rfl, rfl⟩
   (try dsimp only)
   (try simp only [Act.put, nA, nB, nC])
   clear hHeld
   refine hK.out _ _ ?_ (fun hHeld => ?_)
   ·simp [go_sem, *]
   clear hK K
   (try simp only [Act.put, nA, nB, nC])
   refine wpAnyM_oneS 12 rfl (by kernel_rfl) (fun K hK => ?_)
   go_simp
   (refine (rsat_any c (h || dotB A B k || satH (A k)) (B k) _ G1.out (by simp [rf])).mono ?_); rintro e w' ⟨rfl, rfl⟩
   (try dsimp only)
   (try simp only [Act.put, nA, nB, nC])
   clear hHeld
   refine hK.out _ _ ?_ (fun hHeld => ?_)
   ·simp [go_sem, *]
   clear hK K
   (try simp only [Act.put, nA, nB, nC])
   refine wpAnyM_oneS 13 rfl (by kernel_rfl) (fun K hK => ?_)
   go_simp
   (refine (MU.out _).mono ?_); rintro e w3 ⟨rfl, hb3⟩; have U3 := Lib.hid (Upd.then H2.out hb3); have kp := (show _ ∧ _ ∧ _ ∧ _ ∧ _ from ⟨(U3.out.cell la na).trans ra, (U3.out.cell lb nb).trans rb, (U3.out.cell ls (nS 0)).trans s0, (U3.out.cell ls (nS 1)).trans s1, (U3.out.cell ls (nS 2)).trans s2⟩)
   (try dsimp only)
   (try simp only [Act.put, nA, nB, nC])
   clear hHeld
   refine hK.out _ _ ?_ (fun hHeld => ?_)
   ·exact kp
   clear hK K
   (try simp only [Act.put, nA, nB, nC])
   refine wpAnyM_oneS 14 rfl (by kernel_rfl) (fun K hK => ?_)
   go_simp
   (refine (AD.out _).mono ?_); rintro e w4 ⟨rfl, hb4⟩; have U4 := Lib.hid (Upd.then U3.out hb4); have kp2 := (show _ ∧ _ ∧ _ ∧ _ ∧ _ from ⟨(U4.out.cell la na).trans ra, (U4.out.cell lb nb).trans rb, (U4.out.cell ls (nS 0)).trans s0, (U4.out.cell ls (nS 1)).trans s1, (U4.out.cell ls (nS 2)).trans s2⟩); have fz0 : w4.frozen? ⟨w.heap.size, 0, none⟩ = false := (U4.out.frozen ls).trans t0; have fz1 : w4.frozen? ⟨w.heap.size, 1, none⟩ = false := (U4.out.frozen ls).trans t1; have fz2 : w4.frozen? ⟨w.heap.size, 2, none⟩ = false := (U4.out.frozen ls).trans t2; obtain ⟨x0, x1, y0, y1, y2⟩ := kp2; have kp2 := And.intro x0 (And.intro x1 (And.intro y0 (And.intro y1 y2)))
   (try dsimp only)
   (try simp only [Act.put, nA, nB, nC])
   clear hHeld
   refine hK.out _ _ ?_ (fun hHeld => ?_)
   ·exact kp2
   clear hK K
   (try simp only [Act.put, nA, nB, nC])
   refine wpAnyM_one 15 rfl (by kernel_rfl) (fun K hK => ?_)
   go_simp
   refine hK.out _ _ (.inl (by kernel_rfl)) (fun _ => ?_)
   clear hK K
   (try simp only [Act.put, nA, nB, nC])
   refine wpAnyM_done (by kernel_rfl) ?_ _
   go_wp2_with fail
   go_roundw
   case rel =>
    refine ⟨k + 1, N, n', by omega, by go_num, ?_⟩
    have U := HU.out.trans U4.out
    have W4 : Wid w4 w.heap.size (M : Int) m := (U4.out.block ls (by omega)).trans HS.out
    refine Lib.hid ⟨?_, W4.set _ _, HE.out.1, HE.out.2⟩
    rw [show (h || dotB A B (k + 1)) = (h || dotB A B k || satH (A k) || satH (B k)) from by simp [dotB, Bool.or_assoc]]
    exact ((U.setCell (Nat.le_refl _) _).setCell (Nat.le_refl _) _).setCell (Nat.le_refl _) _
   case measure => simp [intOf]; omega
  ·have hkn : k = n := by omega
   subst hkn
   have q1 : decide (k < k) = false := by simp
   have hsum := R.out.e
   have u := R.out.upd
   have hMb : M ≤ 132922799578491587290380706028034457600 := Nat.le_trans R.out.b (Nat.le_trans (Nat.mul_le_mul_right _ (by omega : k ≤ 100)) (by decide))
   have rc : wr.cell? c = some (.bool (h || dotB A B k)) := u.cellc HC.out
   have rf : wr.frozen? c = false := (u.frozen hcb).trans HF.out
   obtain ⟨⟨s0, s1, s2⟩, _⟩ := R.out.s.c
   have SH := Lib.hid (fun w => rshift30_any M m w (by omega))
   have HU := Lib.hid u
   have hwr := HU.out.size
   have HSUM := Lib.hid (show rsh (dotS A B k) 30 = sv m (shM M 30) by rw [← hsum, rsh_sv])
   clear u hMb hsum
   go_wp2_with fail
   refine (SH.out _).mono ?_; rintro e w5 ⟨rfl, hb5⟩
   go_wp2_with fail
   refine (rend2_any c (h || dotB A B k) (shM M 30) m _ ((hb5.cell (by omega)).trans rc) ((hb5.frozen (by omega)).trans rf)).mono ?_; rintro e w6 ⟨rfl, hu6⟩
   go_wp2_with fail
   go_ret
   rw [HSUM.out]
   exact ⟨rfl, HU.out.trans (Upd.after hb5 hu6)⟩
/-- The reference's Dot, as the program's. -/
theorem rdot_any (c : Addr) (h : Bool) (A B : Nat → Int) (pa oa ca pb ob cb n : Nat) (w : World) (hc : w.cell? c = some (.bool h)) (hf : w.frozen? c = false)
  (hn : n ≤ 100)
  (hA : ∀ i, i < n → w.cell? ⟨pa, oa + i, none⟩ = some (.int .i64 (A i))) (hB : ∀ i, i < n → w.cell? ⟨pb, ob + i, none⟩ = some (.int .i64 (B i))) :
  Calls Tryz.prog 68 #[.pointer (some c), .int .i64 30, .slice (some ⟨pa, oa, none⟩) n ca, .slice (some ⟨pb, ob, none⟩) n cb] w fun e w' =>
   e = .returned (.int .i64 (dotV 30 A B n)) ∧ Upd c (h || dotH 30 A B n) w w' := by
 have hs : ¬ ((30 : Int) < 0 ∨ 120 < (30 : Int)) := by omega
 have e1 : dotV 30 A B n = satV (rsh (dotS A B n) 30) := by simp only [dotV, if_neg hs]; rfl
 have e2 : (h || dotH 30 A B n) = (h || dotB A B n || satH (rsh (dotS A B n) 30)) := by simp only [dotH, if_neg hs, Bool.or_assoc]; rfl
 rw [e1, e2]
 exact rdot30_in c h A B pa oa ca pb ob cb n w hc hf hn hA hB
end Go.Proofs.YtgfklheepkgedaaGreat
/- Contracts of the reference's covariance (1): place, U, Condition. -/
namespace Go.Proofs.YtgfklheepkgedaaGreat
open Go.RowKit
set_option maxRecDepth 100000
theorem rplace_any (i j : Nat) (w : World) (_hi : i < 24) (hj : j < 24) (h1 : i < j) :
  Calls Tryz.prog 101 #[.int .i64 i, .int .i64 j] w fun e w' => e = .returned (.int .i64 (pl i j : Nat)) ∧ w = w' := by
 have hmul : (j : Int) * ((j : Int) - 1) = ((j * (j - 1) : Nat) : Int) := by
  cases j with
  | zero => simp
  | succ n => rw [Int.natCast_mul, show ((n + 1 : Nat) : Int) - 1 = ((n + 1 - 1 : Nat) : Int) from by omega]
 have hb : j * (j - 1) ≤ 23 * 22 := Nat.mul_le_mul (by omega) (by omega)
 obtain ⟨T, hT⟩ : ∃ T, j * (j - 1) = T := ⟨_, rfl⟩
 have hp : pl i j = T / 2 + i := by unfold pl; rw [hT]
 rw [hT] at hmul hb
 have e1 : IntKind.i64.wrap ((j : Int) - 1) = (j : Int) - 1 := IntWalk.i64_in _ (by omega)
 have e2 : IntKind.i64.wrap ((j : Int) * ((j : Int) - 1)) = (T : Int) := by rw [hmul]; exact IntWalk.i64_in _ (by omega)
 obtain ⟨D, hD⟩ : ∃ D, T / 2 = D := ⟨_, rfl⟩
 rw [hD] at hp
 have e3 : IntKind.i64.wrap ((T : Int) / 2) = (D : Int) := by rw [show ((T : Int) / 2) = (D : Int) by omega]; exact IntWalk.i64_in _ (by omega)
 have e4 : IntKind.i64.wrap ((D : Int) + (i : Int)) = (D : Int) + (i : Int) := IntWalk.i64_in _ (by omega)
 have HP := Lib.hid hp
 clear hp hb hmul hT hD
 go_enter Tryz.func101, Tryz.ntmps101
 go_wp2_with fail
 go_ret
 refine ⟨?_, rfl⟩
 rw [HP.out]
 simp
theorem rU_any (f : Nat → Int) (pb i j : Nat) (w : World) (hi : i < 24) (hj : j < 24) (hB : Blk w pb 26 300 f) :
  Calls Tryz.prog 100 #[.pointer (some ⟨pb, 0, none⟩), .int .i64 i, .int .i64 j] w fun e w' => e = .returned (.int .i64 (uV f i j)) ∧ Below w.heap.size w w' := by
 have g1 : decide ((i : Int) < 0) = false := by simp
 have g2 : decide ((j : Int) < 0) = false := by simp
 have g3 : decide (24 ≤ (i : Int)) = false := by simp; omega
 have g4 : decide (24 ≤ (j : Int)) = false := by simp; omega
 by_cases h1 : j < i
 ·have g5 : decide (j < i) = true := by simpa using h1
  rw [show uV f i j = 0 from by unfold uV; rw [if_neg (by omega), if_neg (by omega)]]
  go_enter Tryz.func100, Tryz.ntmps100
  go_wp2_with fail
  go_ret
  exact ⟨rfl, by (repeat (first | with_reducible exact Below.refl _ _ | with_reducible apply Below.drew | (with_reducible refine below_drewN ?_ _) | (with_reducible refine Below.alloc ?_ (by (try simp) <;> omega) _) | (with_reducible refine Below.setCell ?_ (by (try simp) <;> omega) _)))⟩
 have g5 : decide (j < i) = false := by simpa using h1
 by_cases h2 : i = j
 ·subst h2
  rw [show uV f i i = 1073741824 from by unfold uV; rw [if_pos rfl]]
  have g6 : ((i : Int) == (i : Int)) = true := by simp
  go_enter Tryz.func100, Tryz.ntmps100
  go_wp2_with fail
  go_ret
  exact ⟨rfl, by (repeat (first | with_reducible exact Below.refl _ _ | with_reducible apply Below.drew | (with_reducible refine below_drewN ?_ _) | (with_reducible refine Below.alloc ?_ (by (try simp) <;> omega) _) | (with_reducible refine Below.setCell ?_ (by (try simp) <;> omega) _)))⟩
 ·have g6 : ((i : Int) == (j : Int)) = false := by simp; omega
  rw [show uV f i j = f (pl i j) from by unfold uV; rw [if_neg h2, if_pos (by omega)]]
  have hp := pl_lt (i := i) (j := j) (by omega) hj
  have PC := Lib.hid (fun w => rplace_any i j w hi hj (by omega))
  obtain ⟨p, hpp⟩ : ∃ p, pl i j = p := ⟨_, rfl⟩
  rw [hpp] at hp PC ⊢
  have b0 := hB.cell (i := p) (by omega)
  have p0 : (0 : Int) ≤ (p : Int) := Int.natCast_nonneg _
  have p1 : (p : Int) < 276 := by omega
  clear hpp h1 h2
  go_enter Tryz.func100, Tryz.ntmps100
  go_upto_region 5 with fail
  refine wp_region_M (fun w' => w'.cell? ⟨pb, p, none⟩ = some (.int .i64 (f p))) 8 (by kernel_rfl) ?_ (fun hHeld => ?_)
  ·exact b0
  refine tk 0 ?_
  (try simp only [Act.put, nA, nB, nC])
  refine tk 1 ?_
  (try simp only [Act.put, nA, nB, nC])
  refine tk 2 ?_
  (try simp only [Act.put, nA, nB, nC])
  refine tk 4 ?_
  (try simp only [Act.put, nA, nB, nC])
  refine tk 5 ?_
  (try simp only [Act.put, nA, nB, nC])
  refine wpAnyM_oneS 3 rfl (by kernel_rfl) (fun K hK => ?_)
  go_simp
  (refine (PC.out _).mono ?_); rintro e w' ⟨rfl, rfl⟩
  (try dsimp only)
  (try simp only [Act.put, nA, nB, nC])
  clear hHeld
  refine hK.out _ _ ?_ (fun hHeld => ?_)
  ·exact b0
  clear hK K
  (try simp only [Act.put, nA, nB, nC])
  refine tk 6 ?_
  (try simp only [Act.put, nA, nB, nC])
  refine tk 7 ?_
  (try simp only [Act.put, nA, nB, nC])
  refine wpAnyM_one 8 rfl (by kernel_rfl) (fun K hK => ?_)
  go_simp
  refine hK.out _ _ (.inl (by kernel_rfl)) (fun _ => ?_)
  clear hK K
  (try simp only [Act.put, nA, nB, nC])
  refine wpAnyM_done (by kernel_rfl) ?_ _
  go_wp2_with fail
  go_ret
  exact ⟨rfl, by (repeat (first | with_reducible exact Below.refl _ _ | with_reducible apply Below.drew | (with_reducible refine below_drewN ?_ _) | (with_reducible refine Below.alloc ?_ (by (try simp) <;> omega) _) | (with_reducible refine Below.setCell ?_ (by (try simp) <;> omega) _)))⟩
set_option maxHeartbeats 2000000 in
theorem rcond_any (c : Addr) (h : Bool) (f : Nat → Int) (w : World) (hc : w.cell? c = some (.bool h)) (hf : w.frozen? c = false) :
  Calls Tryz.prog 99 #[.pointer (some c), .agg (arrv 300 f)] w fun e w' => e = .returned (.agg (arrv 300 (condF f))) ∧ Upd c (h || condH f) w w' := by
 have hcb := World.block_lt_of_cell? w c hc
 have HC := Lib.hid hc
 have HF := Lib.hid hf
 clear hc hf
 go_enter Tryz.func99, Tryz.ntmps99
 go_wp2_with fail
 go_loopw [5] (fun i wr => ∃ k : Nat, k ≤ 24 ∧ i = .int .i64 k ∧ Hid (CondR c (h || orB (fun i => varH (f (276 + i))) k) (condD f k) w wr)) (fun i _ => 24 - (intOf i).toNat)
 case atStart =>
  refine ⟨0, by omega, rfl, ⟨?_, ?_, ?_⟩⟩
  ·rw [show (h || orB (fun i => varH (f (276 + i))) 0) = h from by simp [orB]]
   exact Upd.then (Upd.refl HC.out) (by (repeat (first | with_reducible exact Below.refl _ _ | with_reducible apply Below.drew | (with_reducible refine below_drewN ?_ _) | (with_reducible refine Below.alloc ?_ (by (try simp) <;> omega) _) | (with_reducible refine Below.setCell ?_ (by (try simp) <;> omega) _))))
  ·exact (Blk.alloc (Blk.new w _ 300 f) _).congr fun i hi => by simp [condD]; omega
  ·rw [zcov]; exact Blk.new1 w _ _ 300 _
 case round =>
  obtain ⟨k, hk, rfl, R⟩ := hrel
  by_cases hlt : k < 24
  ·have d1 : decide ((k : Int) < 24) = true := by simp; omega
   have k0 : (0 : Int) ≤ (k : Int) := Int.natCast_nonneg _
   have k1 : (k : Int) < 24 := by omega
   have rc := R.out.upd.cellc HC.out
   have rf := (R.out.upd.frozen hcb).trans HF.out
   have b0 := R.out.blk.cell (i := 276 + k) (by omega)
   have b1 := R.out.blk.free (276 + k)
   have n0 := ne_of_cells rc b0
   have hv : condD f k (276 + k) = f (276 + k) := by simp [condD]
   rw [hv] at b0
   clear hv
   have CC := Lib.hid (rclamp_any c _ (f (276 + k)) 1 72057594037927936 wr.drew rc rf)
   go_upto_region 4 with fail
   refine wp_region_M (fun w' => w'.cell? ⟨w.heap.size, 276 + k, none⟩ = some (.int .i64 (f (276 + k)))) 11 (by kernel_rfl) ?_ (fun hHeld => ?_)
   ·exact b0
   refine tk 0 ?_
   (try simp only [Act.put, nA, nB, nC])
   refine tk 1 ?_
   (try simp only [Act.put, nA, nB, nC])
   refine tk 2 ?_
   (try simp only [Act.put, nA, nB, nC])
   refine tk 3 ?_
   (try simp only [Act.put, nA, nB, nC])
   refine tk 4 ?_
   (try simp only [Act.put, nA, nB, nC])
   refine tk 5 ?_
   (try simp only [Act.put, nA, nB, nC])
   refine tk 6 ?_
   (try simp only [Act.put, nA, nB, nC])
   refine tk 7 ?_
   (try simp only [Act.put, nA, nB, nC])
   refine wpAnyM_takeW 9 (v := ?_) rfl (by kernel_rfl) (fun _ _ _ h => h) (Or.inl ⟨by rfl, ?_⟩) (.inr (by assumption)) ?_
   rotate_left
   ·(intro wx hSw; (try dsimp only at hSw); go_simp; (try with_reducible rfl))
   (try simp only [Act.put, nA, nB, nC])
   refine wpAnyM_oneS 8 rfl (by kernel_rfl) (fun K hK => ?_)
   go_simp
   (refine CC.out.mono ?_); rintro e w' ⟨rfl, rfl⟩
   (try dsimp only)
   (try simp only [Act.put, nA, nB, nC])
   clear hHeld
   refine hK.out _ _ ?_ (fun hHeld => ?_)
   ·simp [go_sem, *]
   clear hK K
   (try simp only [Act.put, nA, nB, nC])
   refine tk 10 ?_
   (try simp only [Act.put, nA, nB, nC])
   refine wpAnyM_one 11 rfl (by kernel_rfl) (fun K hK => ?_)
   go_simp
   refine hK.out _ _ (.inl (by kernel_rfl)) (fun _ => ?_)
   clear hK K
   (try simp only [Act.put, nA, nB, nC])
   refine wpAnyM_done (by kernel_rfl) ?_ _
   go_wp2_with fail
   go_roundw
   case rel =>
    refine ⟨k + 1, by omega, by go_num, ⟨?_, ?_, ?_⟩⟩
    ·rw [show (h || orB (fun i => varH (f (276 + i))) (k + 1)) = (h || orB (fun i => varH (f (276 + i))) k || clampH (f (276 + k)) 1 72057594037927936) from by simp [orB, varH, Bool.or_assoc]]
     exact (R.out.upd.trans (Upd.after (Below.drew (Below.refl _ _)) (Upd.set c _ _))).setCell (Nat.le_refl _) _
    ·refine (((R.out.blk.drew).other (R.out.blk.flag rc) _).set _ _).congr fun i hi => ?_
     simp only [Go.Proofs.YtgfklheepkgedaaGreat.upd, condD, varV]
     by_cases h1 : i = 276 + k
     ·subst h1; simp
     ·rw [if_neg h1]; split <;> split <;> first | rfl | omega
    ·exact ((R.out.res.drew).other (R.out.res.flag rc) _).other (by simp) _
   case measure => simp [intOf]; omega
  ·have hk24 : k = 24 := by omega
   subst hk24
   have HR := R
   clear R hlt hk
   rw [show ((24 : Nat) : Int) = 24 from rfl]
   go_wp2_with fail
   go_loopw [6] (fun i wr => ∃ k : Nat, k ≤ 276 ∧ i = .int .i64 k ∧ Hid (CondR c (h || orB (fun i => varH (f (276 + i))) 24 || orB (fun i => satH (f i)) k) (condU f k) w wr)) (fun i _ => 276 - (intOf i).toNat)
   case atStart =>
    refine ⟨0, by omega, rfl, ⟨?_, HR.out.blk.congr fun i hi => by simp [condD, condU]; split <;> split <;> first | rfl | omega, HR.out.res⟩⟩
    rw [show (h || orB (fun i => varH (f (276 + i))) 24 || orB (fun i => satH (f i)) 0) = (h || orB (fun i => varH (f (276 + i))) 24) from by simp [orB]]
    exact HR.out.upd
   case round =>
    obtain ⟨k, hk, rfl, R⟩ := hrel
    by_cases hlt : k < 276
    ·have d1 : decide ((k : Int) < 276) = true := by simp; omega
     have k0 : (0 : Int) ≤ (k : Int) := Int.natCast_nonneg _
     have k1 : (k : Int) < 276 := by omega
     have rc := R.out.upd.cellc HC.out
     have rf := (R.out.upd.frozen hcb).trans HF.out
     have b0 := R.out.blk.cell (i := k) (by omega)
     have b1 := R.out.blk.free k
     have n0 := ne_of_cells rc b0
     have hv : condU f k k = f k := by simp [condU]; omega
     rw [hv] at b0
     clear hv
     have CC := Lib.hid (rclamp_any c _ (f k) (-1152921504606846976) 1152921504606846976 wr.drew rc rf)
     go_upto_region 8 with fail
     refine wp_region_M (fun w' => w'.cell? ⟨w.heap.size, k, none⟩ = some (.int .i64 (f k))) 11 (by kernel_rfl) ?_ (fun hHeld => ?_)
     ·exact b0
     refine tk 0 ?_
     (try simp only [Act.put, nA, nB, nC])
     refine tk 1 ?_
     (try simp only [Act.put, nA, nB, nC])
     refine tk 2 ?_
     (try simp only [Act.put, nA, nB, nC])
     refine tk 3 ?_
     (try simp only [Act.put, nA, nB, nC])
     refine tk 4 ?_
     (try simp only [Act.put, nA, nB, nC])
     refine tk 5 ?_
     (try simp only [Act.put, nA, nB, nC])
     refine tk 6 ?_
     (try simp only [Act.put, nA, nB, nC])
     refine tk 7 ?_
     (try simp only [Act.put, nA, nB, nC])
     refine wpAnyM_takeW 9 (v := ?_) rfl (by kernel_rfl) (fun _ _ _ h => h) (Or.inl ⟨by rfl, ?_⟩) (.inr (by assumption)) ?_
     rotate_left
     ·(intro wx hSw; (try dsimp only at hSw); go_simp; (try with_reducible rfl))
     (try simp only [Act.put, nA, nB, nC])
     refine wpAnyM_oneS 8 rfl (by kernel_rfl) (fun K hK => ?_)
     go_simp
     (refine CC.out.mono ?_); rintro e w' ⟨rfl, rfl⟩
     (try dsimp only)
     (try simp only [Act.put, nA, nB, nC])
     clear hHeld
     refine hK.out _ _ ?_ (fun hHeld => ?_)
     ·simp [go_sem, *]
     clear hK K
     (try simp only [Act.put, nA, nB, nC])
     refine tk 10 ?_
     (try simp only [Act.put, nA, nB, nC])
     refine wpAnyM_one 11 rfl (by kernel_rfl) (fun K hK => ?_)
     go_simp
     refine hK.out _ _ (.inl (by kernel_rfl)) (fun _ => ?_)
     clear hK K
     (try simp only [Act.put, nA, nB, nC])
     refine wpAnyM_done (by kernel_rfl) ?_ _
     go_wp2_with fail
     go_roundw
     case rel =>
      refine ⟨k + 1, by omega, by go_num, ⟨?_, ?_, ?_⟩⟩
      ·rw [show (h || orB (fun i => varH (f (276 + i))) 24 || orB (fun i => satH (f i)) (k + 1)) = (h || orB (fun i => varH (f (276 + i))) 24 || orB (fun i => satH (f i)) k || clampH (f k) (-1152921504606846976) 1152921504606846976) from by simp [orB, satH, Bool.or_assoc]]
       exact (R.out.upd.trans (Upd.after (Below.drew (Below.refl _ _)) (Upd.set c _ _))).setCell (Nat.le_refl _) _
      ·refine (((R.out.blk.drew).other (R.out.blk.flag rc) _).set _ _).congr fun i hi => ?_
       simp only [Go.Proofs.YtgfklheepkgedaaGreat.upd, condU, satV]
       by_cases h1 : i = k
       ·subst h1; simp
       ·rw [if_neg h1]; repeat' split
        all_goals first | rfl | omega
      ·exact ((R.out.res.drew).other (R.out.res.flag rc) _).other (by simp) _
     case measure => simp [intOf]; omega
    ·have hk276 : k = 276 := by omega
     subst hk276
     have B0 := R.out.blk
     have B1 := R.out.res
     have U := Lib.hid R.out.upd
     have hl := B1.lt
     clear R hlt hk HR
     go_wp2_with (first | (refine wpList_load_row rfl 26 _ rfl w.heap.size rfl 26 _ (0, 0) _ B0 Tryz.underlying26 rfl (icov.trans (by rw [arrv_size])) ?_) | (refine wpList_store_row rfl 26 _ _ rfl (w.heap.size + 1) _ rfl rfl 26 _ B1 (icov.trans (by rw [arrv_size])) (by rw [arrv_size, arrv_size]) (oneCell_arrv _ _) ?_))
     refine bodyPost_ret (results_cell_row Tryz.results99 _ _ (w.heap.size + 1) 26 (arrv 300 (condU f 276)) (0, 0) _ rfl (setRow_heap _ _ _ _ _ _ B1) Tryz.underlying26 rfl (icov.trans (by rw [arrv_size]))) rfl ⟨?_, ?_⟩
     ·rw [arrv_congr (g := condF f) fun i hi => ?_]
      simp only [condU, condF]
      by_cases h1 : i < 276
      ·simp [h1]
      ·rw [if_neg h1, if_neg h1, if_pos (by omega)]
     ·rw [show (h || condH f) = (h || orB (fun i => varH (f (276 + i))) 24 || orB (fun i => satH (f i)) 276) from by simp [condH, Bool.or_assoc]]
      exact U.out.then' (below_row (Below.refl _ _) (by omega) _)
end Go.Proofs.YtgfklheepkgedaaGreat
/- The reference's Step: what it keeps, number by number. -/
namespace Go.Proofs.YtgfklheepkgedaaGreat
open Go.RowKit
set_option maxRecDepth 100000
/-- The blocks of the call. -/
structure RsA (c : Addr) (h : Bool) (P Q : Nat → Int) (w wr : World) : Prop where
 upd : Upd c h w wr
 pB : Blk wr w.heap.size 26 300 P
 qB : Blk wr (w.heap.size + 1) 22 24 Q
 rB : Blk wr (w.heap.size + 1 + 1) 26 300 (fun _ => 0)
theorem RsA.upd' {c : Addr} {h h' : Bool} {P Q : Nat → Int} {w wr w' : World} (s : RsA c h P Q w wr) (hc : c.block < w.heap.size) (u : Upd c h' wr w') : RsA c h' P Q w w' :=
 ⟨s.upd.trans u, s.pB.upd u (by omega), s.qB.upd u (by omega), s.rB.upd u (by omega)⟩
theorem RsA.below {c : Addr} {h : Bool} {P Q : Nat → Int} {w wr w' : World} (s : RsA c h P Q w wr) (b : Below wr.heap.size wr w') : RsA c h P Q w w' :=
 ⟨s.upd.then b, s.pB.below b, s.qB.below b, s.rB.below b⟩
theorem RsA.other {c : Addr} {h : Bool} {P Q : Nat → Int} {w wr : World} (s : RsA c h P Q w wr) {b o : Nat} (hb : w.heap.size + 2 < b) (v : Value) : RsA c h P Q w (wr.setCell ⟨b, o, none⟩ v) :=
 ⟨s.upd.setCell (by simp; omega) _, s.pB.other (by simp; omega) _, s.qB.other (by simp; omega) _, s.rB.other (by simp; omega) _⟩
theorem RsA.far {c : Addr} {h : Bool} {P Q : Nat → Int} {w wr : World} (s : RsA c h P Q w wr) : w.heap.size + 2 < wr.heap.size := s.rB.lt
/-- cols: of columns below k all, of column k the first i. -/
def clS (P : Nat → Int) (k i : Nat) : Nat → Int := fun x => if x / 24 < k ∨ (x / 24 = k ∧ x % 24 < i) then colF P (x / 24) (x % 24) else 0
def qS (q : Nat → Int) (k : Nat) : Nat → Int := fun x => if x < k then qV (q x) else q x
/-- Of what is to be orthogonalised the rows below i, and of row i the first k. -/
def wS (P F : Nat → Int) (i k : Nat) : Nat → Int := fun x => if x / 48 < i then rowsW P F x else if x / 48 = i ∧ x % 48 < k then rwV P F i (x % 48) else 0
/-- The flags of a row. -/
def rrH (P F G : Nat → Int) (i : Nat) : Bool := orB (fun k => satH (F (i * 24 + k))) 24 || orB (fun k => rwB P G i k) 24
theorem iy48 : (Tryz.prog.info? 130).map (·.size) = some 48 := by kernel_rfl
theorem zmat2 : Tryz.zeroCells95 = arrv 576 (fun _ => 0) := by kernel_rfl
structure RsB (c : Addr) (h : Bool) (P Q : Nat → Int) (cb wb eb : Nat) (C W E : Nat → Int) (w wr : World) : Prop where
 a : RsA c h P Q w wr
 cB : Blk wr cb 95 576 C
 wB : Blk wr wb 146 1152 W
 eB : Blk wr eb 130 48 E
 ord : w.heap.size + 2 < cb ∧ cb < wb ∧ wb < eb
theorem RsB.upd' {c : Addr} {h h' : Bool} {P Q : Nat → Int} {cb wb eb : Nat} {C W E : Nat → Int} {w wr w' : World} (s : RsB c h P Q cb wb eb C W E w wr) (hc : c.block < w.heap.size) (u : Upd c h' wr w') : RsB c h' P Q cb wb eb C W E w w' :=
 ⟨s.a.upd' hc u, s.cB.upd u (by have := s.ord; omega), s.wB.upd u (by have := s.ord; omega), s.eB.upd u (by have := s.ord; omega), s.ord⟩
theorem RsB.below {c : Addr} {h : Bool} {P Q : Nat → Int} {cb wb eb : Nat} {C W E : Nat → Int} {w wr w' : World} (s : RsB c h P Q cb wb eb C W E w wr) (b : Below wr.heap.size wr w') : RsB c h P Q cb wb eb C W E w w' :=
 ⟨s.a.below b, s.cB.below b, s.wB.below b, s.eB.below b, s.ord⟩
theorem RsB.other {c : Addr} {h : Bool} {P Q : Nat → Int} {cb wb eb : Nat} {C W E : Nat → Int} {w wr : World} (s : RsB c h P Q cb wb eb C W E w wr) {b o : Nat} (hb : eb < b) (v : Value) : RsB c h P Q cb wb eb C W E w (wr.setCell ⟨b, o, none⟩ v) :=
 ⟨s.a.other (by have := s.ord; omega) v, s.cB.other (by have := s.ord; simp; omega) _, s.wB.other (by have := s.ord; simp; omega) _, s.eB.other (by simp; omega) _, s.ord⟩
theorem RsB.setW {c : Addr} {h : Bool} {P Q : Nat → Int} {cb wb eb : Nat} {C W E : Nat → Int} {w wr : World} (s : RsB c h P Q cb wb eb C W E w wr) (o : Nat) (v : Int) : RsB c h P Q cb wb eb C (upd W o v) E w (wr.setCell ⟨wb, o, none⟩ (.int .i64 v)) :=
 ⟨s.a.other (by have := s.ord; omega) _, s.cB.other (by have := s.ord; simp; omega) _, s.wB.set _ _, s.eB.other (by have := s.ord; simp; omega) _, s.ord⟩
theorem RsB.setE {c : Addr} {h : Bool} {P Q : Nat → Int} {cb wb eb : Nat} {C W E : Nat → Int} {w wr : World} (s : RsB c h P Q cb wb eb C W E w wr) (o : Nat) (v : Int) : RsB c h P Q cb wb eb C W (upd E o v) w (wr.setCell ⟨eb, o, none⟩ (.int .i64 v)) :=
 ⟨s.a.other (by have := s.ord; omega) _, s.cB.other (by have := s.ord; simp; omega) _, s.wB.other (by have := s.ord; simp; omega) _, s.eB.set _ _, s.ord⟩
theorem RsB.cong {c : Addr} {h : Bool} {P Q : Nat → Int} {cb wb eb : Nat} {C W W' E E' : Nat → Int} {w wr : World} (s : RsB c h P Q cb wb eb C W E w wr) (hW : ∀ i, i < 1152 → W i = W' i) (hE : ∀ i, i < 48 → E i = E' i) : RsB c h P Q cb wb eb C W' E' w wr :=
 ⟨s.a, s.cB, s.wB.congr hW, s.eB.congr hE, s.ord⟩
/-- What holds while the reference's rows are eliminated. -/
structure StQ (c : Addr) (h : Bool) (eb wb ob : Nat) (E W O : Nat → Int) (w wr : World) : Prop where
 upd : Upd c h w wr
 eB : Blk wr eb 130 48 E
 wB : Blk wr wb 146 1152 W
 oB : Blk wr ob 26 300 O
 rB : Blk wr (w.heap.size + 1 + 1) 26 300 (fun _ => 0)
theorem StQ.upd' {c : Addr} {h h' : Bool} {eb wb ob : Nat} {E W O : Nat → Int} {w wr w' : World} (s : StQ c h eb wb ob E W O w wr) (hc : c.block < w.heap.size) (h1 : w.heap.size ≤ eb) (h2 : w.heap.size ≤ wb) (h3 : w.heap.size ≤ ob) (u : Upd c h' wr w') : StQ c h' eb wb ob E W O w w' :=
 ⟨s.upd.trans u, s.eB.upd u (by omega), s.wB.upd u (by omega), s.oB.upd u (by omega), s.rB.upd u (by omega)⟩
theorem StQ.below {c : Addr} {h : Bool} {eb wb ob : Nat} {E W O : Nat → Int} {w wr w' : World} (s : StQ c h eb wb ob E W O w wr) (b : Below wr.heap.size wr w') : StQ c h eb wb ob E W O w w' :=
 ⟨s.upd.then b, s.eB.below b, s.wB.below b, s.oB.below b, s.rB.below b⟩
theorem StQ.other {c : Addr} {h : Bool} {eb wb ob : Nat} {E W O : Nat → Int} {w wr : World} (s : StQ c h eb wb ob E W O w wr) {b o : Nat} (n0 : w.heap.size ≤ b) (n1 : b ≠ eb) (n2 : b ≠ wb) (n3 : b ≠ ob) (n4 : b ≠ w.heap.size + 1 + 1) (v : Value) : StQ c h eb wb ob E W O w (wr.setCell ⟨b, o, none⟩ v) :=
 ⟨s.upd.setCell n0 _, s.eB.other (by simp; omega) _, s.wB.other (by simp; omega) _, s.oB.other (by simp; omega) _, s.rB.other (by simp; omega) _⟩
end Go.Proofs.YtgfklheepkgedaaGreat
