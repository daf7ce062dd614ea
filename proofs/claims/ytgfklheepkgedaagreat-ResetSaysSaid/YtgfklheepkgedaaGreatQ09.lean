/- Contracts of the program's functions and plain laws, part 9: they hold for all arguments. -/
import Derived.Test.YtgfklheepkgedaaGreatQ08
import Derived.Test.YtgfklheepkgedaaGreatQ04
import Derived.Test.YtgfklheepkgedaaGreatQ05
/- Contract of reset.moved. -/
namespace Go.Proofs.YtgfklheepkgedaaGreat
open Go.RowKit
set_option maxRecDepth 100000
theorem Own.rowk {w : World} {B T k : Nat} {v : Value} {n : Nat} {L : Nat → Int} (h : Own w B T v n L) (cs : Array Value) (hk : k < B) : Own (w.setRow k cs) B T v n L := h.kept fun j hB _ _ => Go.setRow_other w k j cs (by omega)
theorem snoc_fun3 {n : Nat} {L : Nat → Int} {y : Int} (e : y = L n) : ∀ i, i < n + 1 → upd L n y i = L i := fun i _ => by
 unfold upd; split
 ·next h => subst h; exact e
 ·rfl
theorem ownBlock_lt3 {w : World} {B T : Nat} {v : Value} {n : Nat} {L : Nat → Int} (h : Own w B T v n L) {g : Nat} (e : v.ownBlock = some g) : B ≤ g ∧ g < w.heap.size := by
 rcases h.2 with ⟨h0, _⟩ | ⟨g', cap, cur, rfl, hb, hgg, _⟩
 ·subst h0; cases e
 ·injection e with e; subst e; exact ⟨hb, (Array.getElem?_eq_some_iff.1 hgg).1⟩
theorem mv_flag (h : Bool) (S : Nat → Int) (fr : Nat) (L : Nat → Int) (k : Nat) :
  (h || orB (mvB S fr L) k || clampH (L k) (-(boxF (fr + k))) (boxF (fr + k)) || satH (mvX fr L k) || satH (S (fr + k)) || satH (satV (mvX fr L k) - satV (S (fr + k)))) = (h || orB (mvB S fr L) (k + 1)) := by
 simp only [orB, mvB, subH, Bool.or_assoc]
open Go in
/-- The results of a function that gives a row and a number (or slice). -/
theorem results_row1 {P : Program} {fn : Func} {p u : Tmp} {ty : TypeId} (h : fn.results = #[.cell p ty, .tmp u]) (tmps : Array Value) (w : World) (g : Nat) (t : TypeId) (cs : Array Value) (fr : Nat × Nat) (d : TypeDesc)
  (hp : tmps.getD p undef = .pointer (some ⟨g, 0, none⟩)) (hg : w.heap[g]? = some (.cells cs t fr))
  (hu : P.underlying ty = some d) (hd : (match d with | .struct _ | .array _ _ => true | _ => false) = true) (hi : (P.info? ty).map (·.size) = some cs.size)
  (v : Value) (hv : tmps.getD u undef = v) :
  (results fn tmps).run P w = .ok (.tuple #[.agg cs, v]) w := by
 have e1 : tmps[p]?.getD undef = .pointer (some ⟨g, 0, none⟩) := by simpa using hp
 have e3 : tmps[u]?.getD undef = v := by simpa using hv
 simp [results, h, e1, e3, asAddr, run_loadVar_row w g t ty cs fr d hg hu hd hi]
/-- The blocks of moved: the estimate, its result, the box, the slice of what changed. -/
structure MvR (c : Addr) (h : Bool) (bb : Nat) (F : Nat → Int) (v : Value) (k : Nat) (D : Nat → Int) (w wr : World) : Prop where
 upd : Upd c h w wr
 s : Blk wr w.heap.size 23 24 F
 r : Blk wr (w.heap.size + 1) 23 24 (fun _ => 0)
 b : Blk wr bb 111 24 boxF
 own : Own wr (bb + 1) 2 v k D
 lt : w.heap.size + 1 < bb
theorem MvR.upd' {c : Addr} {h h' : Bool} {bb : Nat} {F : Nat → Int} {v : Value} {k : Nat} {D : Nat → Int} {w wr w' : World} (s : MvR c h bb F v k D w wr) (hc : c.block < w.heap.size) (u : Upd c h' wr w') : MvR c h' bb F v k D w w' := by
 have := s.lt
 exact ⟨s.upd.trans u, s.s.upd u (by omega), s.r.upd u (by omega), s.b.upd u (by omega), s.own.upd u (by omega), s.lt⟩
theorem MvR.down {c : Addr} {h : Bool} {bb : Nat} {F : Nat → Int} {v : Value} {k : Nat} {D : Nat → Int} {w wr w' : World} (s : MvR c h bb F v k D w wr) (u : Below wr.heap.size wr w') : MvR c h bb F v k D w w' :=
 ⟨s.upd.then u, s.s.below u, s.r.below u, s.b.below u, s.own.below u, s.lt⟩
theorem MvR.drew {c : Addr} {h : Bool} {bb : Nat} {F : Nat → Int} {v : Value} {k : Nat} {D : Nat → Int} {w wr : World} (s : MvR c h bb F v k D w wr) : MvR c h bb F v k D w wr.drew := s.down (Below.drew (Below.refl _ _))
theorem MvR.set {c : Addr} {h : Bool} {bb : Nat} {F : Nat → Int} {v : Value} {k : Nat} {D : Nat → Int} {w wr : World} (s : MvR c h bb F v k D w wr) (i : Nat) (x : Int) : MvR c h bb (Go.Proofs.YtgfklheepkgedaaGreat.upd F i x) v k D w (wr.setCell ⟨w.heap.size, i, none⟩ (.int .i64 x)) := by
 have := s.lt
 exact ⟨s.upd.setCell (Nat.le_refl _) _, s.s.set i x, s.r.other (by simp) _, s.b.other (by simp; omega) _, s.own.kept fun k hk _ _ => heap_setCell_other _ _ k _ (by simp; omega), s.lt⟩
theorem MvR.grown {c : Addr} {h : Bool} {bb : Nat} {F : Nat → Int} {v v' : Value} {k : Nat} {D : Nat → Int} {w wr w' : World} (s : MvR c h bb F v k D w wr) (g : wr.grownBy w' v.ownBlock) (ho : Own w' (bb + 1) 2 v' (k + 1) D) : MvR c h bb F v' (k + 1) D w w' := by
 have hl := s.lt
 have hb : ∀ j, j < bb + 1 → j < wr.heap.size → w'.heap[j]? = wr.heap[j]? := fun j hk hl => g.block j hl (fun e => by have := (ownBlock_lt3 s.own e.symm).1; omega)
 refine ⟨s.upd.then' (below_grown (Below.refl _ _) g (fun k e => by have := (ownBlock_lt3 s.own e).1; omega) s.upd.size), ?_, ?_, ?_, ho, hl⟩
 ·exact (hb _ (by omega) s.s.lt).trans s.s
 ·exact (hb _ (by omega) s.r.lt).trans s.r
 ·exact (hb _ (by omega) s.b.lt).trans s.b
theorem mv_start (c : Addr) (h : Bool) (S D : Nat → Int) (w w1 : World) (hc : w.cell? c = some (.bool h)) (hb : Below ((w.alloc (.cells (arrv 24 S) 23)).alloc (.cells #[.int .i64 0, .int .i64 0, .int .i64 0, .int .i64 0, .int .i64 0, .int .i64 0, .int .i64 0, .int .i64 0, .int .i64 0, .int .i64 0, .int .i64 0, .int .i64 0, .int .i64 0, .int .i64 0, .int .i64 0, .int .i64 0, .int .i64 0, .int .i64 0, .int .i64 0, .int .i64 0, .int .i64 0, .int .i64 0, .int .i64 0, .int .i64 0] 23)).heap.size ((w.alloc (.cells (arrv 24 S) 23)).alloc (.cells #[.int .i64 0, .int .i64 0, .int .i64 0, .int .i64 0, .int .i64 0, .int .i64 0, .int .i64 0, .int .i64 0, .int .i64 0, .int .i64 0, .int .i64 0, .int .i64 0, .int .i64 0, .int .i64 0, .int .i64 0, .int .i64 0, .int .i64 0, .int .i64 0, .int .i64 0, .int .i64 0, .int .i64 0, .int .i64 0, .int .i64 0, .int .i64 0] 23)) w1) :
  MvR c h w1.heap.size S (.slice none 0 0) 0 D w ((w1.alloc (.cells #[.int .i64 0, .int .i64 0, .int .i64 0, .int .i64 0, .int .i64 0, .int .i64 0, .int .i64 0, .int .i64 0, .int .i64 0, .int .i64 0, .int .i64 0, .int .i64 0, .int .i64 0, .int .i64 0, .int .i64 0, .int .i64 0, .int .i64 0, .int .i64 0, .int .i64 0, .int .i64 0, .int .i64 0, .int .i64 0, .int .i64 0, .int .i64 0] 111)).setRow w1.heap.size (arrv 24 boxF)) ∧ Blk (w1.alloc (.cells #[.int .i64 0, .int .i64 0, .int .i64 0, .int .i64 0, .int .i64 0, .int .i64 0, .int .i64 0, .int .i64 0, .int .i64 0, .int .i64 0, .int .i64 0, .int .i64 0, .int .i64 0, .int .i64 0, .int .i64 0, .int .i64 0, .int .i64 0, .int .i64 0, .int .i64 0, .int .i64 0, .int .i64 0, .int .i64 0, .int .i64 0, .int .i64 0] 111)) w1.heap.size 111 24 (fun _ => 0) := by
 have R0 : Blk ((w.alloc (.cells (arrv 24 S) 23)).alloc (.cells #[.int .i64 0, .int .i64 0, .int .i64 0, .int .i64 0, .int .i64 0, .int .i64 0, .int .i64 0, .int .i64 0, .int .i64 0, .int .i64 0, .int .i64 0, .int .i64 0, .int .i64 0, .int .i64 0, .int .i64 0, .int .i64 0, .int .i64 0, .int .i64 0, .int .i64 0, .int .i64 0, .int .i64 0, .int .i64 0, .int .i64 0, .int .i64 0] 23)) (w.heap.size + 1) 23 24 (fun _ => 0) := by rw [zvec24]; exact Blk.new1 w _ _ 24 _
 have P0 : Blk ((w.alloc (.cells (arrv 24 S) 23)).alloc (.cells #[.int .i64 0, .int .i64 0, .int .i64 0, .int .i64 0, .int .i64 0, .int .i64 0, .int .i64 0, .int .i64 0, .int .i64 0, .int .i64 0, .int .i64 0, .int .i64 0, .int .i64 0, .int .i64 0, .int .i64 0, .int .i64 0, .int .i64 0, .int .i64 0, .int .i64 0, .int .i64 0, .int .i64 0, .int .i64 0, .int .i64 0, .int .i64 0] 23)) w.heap.size 23 24 S := (Blk.new w _ 24 _).alloc _
 have U0 : Upd c h w ((w.alloc (.cells (arrv 24 S) 23)).alloc (.cells #[.int .i64 0, .int .i64 0, .int .i64 0, .int .i64 0, .int .i64 0, .int .i64 0, .int .i64 0, .int .i64 0, .int .i64 0, .int .i64 0, .int .i64 0, .int .i64 0, .int .i64 0, .int .i64 0, .int .i64 0, .int .i64 0, .int .i64 0, .int .i64 0, .int .i64 0, .int .i64 0, .int .i64 0, .int .i64 0, .int .i64 0, .int .i64 0] 23)) := Upd.then (Upd.refl hc) (by (repeat (first | with_reducible exact Below.refl _ _ | with_reducible apply Below.drew | (with_reducible refine below_drewN ?_ _) | (with_reducible refine Below.alloc ?_ (by (try simp) <;> omega) _) | (with_reducible refine Below.setCell ?_ (by (try simp) <;> omega) _))))
 have X1 : Blk (w1.alloc (.cells #[.int .i64 0, .int .i64 0, .int .i64 0, .int .i64 0, .int .i64 0, .int .i64 0, .int .i64 0, .int .i64 0, .int .i64 0, .int .i64 0, .int .i64 0, .int .i64 0, .int .i64 0, .int .i64 0, .int .i64 0, .int .i64 0, .int .i64 0, .int .i64 0, .int .i64 0, .int .i64 0, .int .i64 0, .int .i64 0, .int .i64 0, .int .i64 0] 111)) w1.heap.size 111 24 (fun _ => 0) := by rw [zvec24]; exact Blk.new _ _ 24 _
 have B1 : Below w1.heap.size w1 ((w1.alloc (.cells #[.int .i64 0, .int .i64 0, .int .i64 0, .int .i64 0, .int .i64 0, .int .i64 0, .int .i64 0, .int .i64 0, .int .i64 0, .int .i64 0, .int .i64 0, .int .i64 0, .int .i64 0, .int .i64 0, .int .i64 0, .int .i64 0, .int .i64 0, .int .i64 0, .int .i64 0, .int .i64 0, .int .i64 0, .int .i64 0, .int .i64 0, .int .i64 0] 111)).setRow w1.heap.size (arrv 24 boxF)) := below_row ((Below.refl _ _).alloc (Nat.le_refl _) _) (Nat.le_refl _) _
 have hlt := (R0.below hb).lt
 exact ⟨⟨(U0.then hb).then B1, (P0.below hb).below B1, (R0.below hb).below B1, X1.setRow _, Own.nil _ _ _ _, hlt⟩, X1⟩
set_option maxHeartbeats 8000000 in
theorem moved_any (c : Addr) (h : Bool) (S : Nat → Int) (fr : Nat) (p : Option Addr) (n cp : Nat) (L : Nat → Int) (w : World) (hc : w.cell? c = some (.bool h)) (hf : w.frozen? c = false) (hL : Slc w p n L) (hn : fr + n ≤ 24) :
  Calls Tryz.prog 35 #[.pointer (some c), .agg (arrv 24 S), .int .i64 (fr : Int), .slice p n cp] w fun e w' =>
   ∃ v, e = .returned (.tuple #[.agg (arrv 24 (keepF (mvS S fr L n))), v]) ∧ Own w' w.heap.size 2 v n (mvD S fr L) ∧ Upd c (h || orB (mvB S fr L) n || keepH (mvS S fr L n)) w w' := by
 have hcb := World.block_lt_of_cell? w c hc
 have GS := Lib.hid (fun (w1 : World) hb => mv_start c h S (mvD S fr L) w w1 hc hb)
 have HC := Lib.hid hc
 have HF := Lib.hid hf
 have HL := Lib.hid hL
 clear hc hf hL
 go_enter Tryz.func35, Tryz.ntmps35
 go_upto_region 1 with fail
 refine wp_region_lit ?_
 refine wpList_step (fun K hK => ?_)
 go_simp
 (refine (bounds_any _).mono ?_); rintro e w1 ⟨rfl, hb1⟩; have S0 := Lib.hid (GS.out w1 hb1); clear hb1
 (try dsimp only)
 (try simp only [Act.put, nA, nB, nC])
 refine hK _ _ ?_
 clear hK K
 refine wpList_act (v := ?_) (w' := ?_) rfl ?_ ?_
 rotate_left 2
 ·(go_simp; (try (first | with_reducible rfl | (constructor <;> with_reducible rfl))))
 (try simp only [Act.put, nA, nB, nC])
 refine wpList_done (w' := ?_) rfl ?_ ?_
 rotate_left
 ·refine Eq.trans (run_store_row 111 (.tmp 10) (.tmp 14) (by rfl) (w1.heap.size) (by rfl) (by rfl) (S0.out.2) (ibox.trans rfl)) ?_; with_reducible rfl
 (try simp only [Act.put, nA, nB, nC])
 refine wpList_nil ?_
 have S1 := Lib.hid S0.out.1
 generalize (w1.alloc (.cells #[.int .i64 0, .int .i64 0, .int .i64 0, .int .i64 0, .int .i64 0, .int .i64 0, .int .i64 0, .int .i64 0, .int .i64 0, .int .i64 0, .int .i64 0, .int .i64 0, .int .i64 0, .int .i64 0, .int .i64 0, .int .i64 0, .int .i64 0, .int .i64 0, .int .i64 0, .int .i64 0, .int .i64 0, .int .i64 0, .int .i64 0, .int .i64 0] 111)).setRow w1.heap.size (arrv 24 boxF) = W1 at *
 obtain ⟨bb, hbb⟩ : ∃ x, w1.heap.size = x := ⟨_, rfl⟩
 rw [hbb] at S1 ⊢
 clear S0 GS hbb
 go_wp2_with fail
 go_loopw [11, 17] (fun v0 i wr => ∃ (k : Nat) (v : Value), k ≤ n ∧ i = .int .i64 k ∧ v = v0 ∧ Hid (MvR c (h || orB (mvB S fr L) k) bb (mvS S fr L k) v k (mvD S fr L) w wr)) (fun _ i _ => n - (intOf i).toNat)
 case atStart =>
  refine ⟨0, _, by omega, rfl, rfl, ?_⟩
  rw [show (h || orB (mvB S fr L) 0) = h from by simp [orB]]
  exact S1
 case round =>
  obtain ⟨k, v, hk, rfl, rfl, R⟩ := hrel
  clear S1
  by_cases hlt : k < n
  ·have d1 : decide (k < n) = true := by simpa using hlt
   have d2 : decide ((k : Int) < (n : Int)) = true := by simp; omega
   obtain ⟨pb, po, rfl, hcell⟩ := HL.out k hlt
   have hne : (⟨pb, po + k, none⟩ : Addr) ≠ c := fun e => by rw [e, HC.out] at hcell; cases hcell
   have hpl := World.block_lt_of_cell? _ _ hcell
   have hcell' : wr.cell? ⟨pb, po + k, none⟩ = some (.int .i64 (L k)) := (R.out.upd.cell hpl (Ne.symm hne)).trans hcell
   have k0 : (0 : Int) ≤ (k : Int) := Int.natCast_nonneg _
   have k1 : (k : Int) < (n : Int) := by omega
   have FL := mv_flag h S fr L k
   have FS : mvS S fr L (k + 1) = Go.Proofs.YtgfklheepkgedaaGreat.upd (mvS S fr L k) (fr + k) (mvX fr L k) := rfl
   have FD : mvD S fr L k = satV (satV (mvX fr L k) - satV (S (fr + k))) := rfl
   have FX : mvX fr L k = clampV (L k) (-(boxF (fr + k))) (boxF (fr + k)) := rfl
   have FF : mvS S fr L k (fr + k) = S (fr + k) := by rw [mvS_at, if_neg (by omega)]
   obtain ⟨j, hj⟩ : ∃ j : Nat, fr + k = j := ⟨_, rfl⟩
   have kw : IntKind.i64.wrap ((fr : Int) + (k : Int)) = (j : Int) := by rw [← hj, Int.natCast_add]; exact IntWalk.i64_in _ (by omega)
   have j24 : j < 24 := by omega
   have j0 : (0 : Int) ≤ (j : Int) := Int.natCast_nonneg _
   have j1 : (j : Int) < 24 := by omega
   have hM := boxF_pos j
   rw [hj] at FL FS FD FX FF
   obtain ⟨F, hF⟩ : ∃ x, mvS S fr L k = x := ⟨_, rfl⟩
   obtain ⟨D, hD⟩ : ∃ x, mvD S fr L = x := ⟨_, rfl⟩
   obtain ⟨H, hH⟩ : ∃ x, (h || orB (mvB S fr L) k) = x := ⟨_, rfl⟩
   obtain ⟨x, hx⟩ : ∃ x, L k = x := ⟨_, rfl⟩
   obtain ⟨M, hMe⟩ : ∃ M, boxF j = M := ⟨_, rfl⟩
   obtain ⟨y, hy⟩ : ∃ y, mvX fr L k = y := ⟨_, rfl⟩
   obtain ⟨z, hz⟩ : ∃ z, S j = z := ⟨_, rfl⟩
   rw [hx] at hcell'
   rw [hF, hD, hH] at R
   rw [hH, hx, hMe, hy, hz] at FL
   rw [hF, hy] at FS
   rw [hD, hy, hz] at FD
   rw [hx, hMe, hy] at FX
   rw [hF, hz] at FF
   rw [hMe] at hM
   obtain ⟨d, hd⟩ : ∃ d, satV (satV y - satV z) = d := ⟨_, rfl⟩
   rw [hd] at FD
   have hneg := neg_in M (by omega)
   have bM := R.out.b.cell (i := j) j24
   rw [hMe] at bM
   have GX := Lib.hid FX.symm
   have GL := Lib.hid FL
   have GS := Lib.hid FS
   have GD := Lib.hid FD
   have GZ := Lib.hid hd
   have GF := Lib.hid FF
   have HME := Lib.hid hMe
   have HDD := Lib.hid hD
   clear FX FL FS FD FF hj hF hD hH hx hMe hy hz hM hcell hne hpl hd
   go_upto_region 6 with fail
   have HS := Lib.hid R.out.drew
   clear R
   refine wp_region_M (fun w' => w'.cell? ⟨bb, j, none⟩ = some (.int .i64 M)) 14 (by kernel_rfl) ?_ (fun hHeld => ?_)
   ·exact (HS.out.b.cell (i := j) j24).trans (congrArg (fun z => some (Go.Value.int .i64 z)) HME.out)
   refine tk 0 ?_
   (try simp only [Act.put, nA, nB, nC])
   refine tk 1 ?_
   (try simp only [Act.put, nA, nB, nC])
   refine tk 2 ?_
   (try simp only [Act.put, nA, nB, nC])
   refine tk 3 ?_
   (try simp only [Act.put, nA, nB, nC])
   refine tl 4 (v := ?_) ?_ ?_
   rotate_left
   ·(intro wx hSw; (try dsimp only at hSw); go_simp; (try rw [kw]); (try with_reducible rfl))
   (try simp only [Act.put, nA, nB, nC])
   refine tk 5 ?_
   (try simp only [Act.put, nA, nB, nC])
   refine tk 6 ?_
   (try simp only [Act.put, nA, nB, nC])
   refine tl 7 (v := ?_) ?_ ?_
   rotate_left
   ·(intro wx hSw; (try dsimp only at hSw); go_simp; (try rw [hneg]); (try with_reducible rfl))
   (try simp only [Act.put, nA, nB, nC])
   refine tk 8 ?_
   (try simp only [Act.put, nA, nB, nC])
   refine tk 9 ?_
   (try simp only [Act.put, nA, nB, nC])
   refine tl 10 (v := ?_) ?_ ?_
   rotate_left
   ·(intro wx hSw; (try dsimp only at hSw); go_simp; (try rw [kw]); (try with_reducible rfl))
   (try simp only [Act.put, nA, nB, nC])
   refine tk 11 ?_
   (try simp only [Act.put, nA, nB, nC])
   refine tk 12 ?_
   (try simp only [Act.put, nA, nB, nC])
   refine wpAnyM_oneS 13 rfl (by kernel_rfl) (fun K hK => ?_)
   go_simp
   (refine (clamp_any c H x (-M) M _ (HS.out.upd.cellc HC.out) ((HS.out.upd.frozen hcb).trans HF.out)).mono ?_); (rw [GX.out]); rintro e w2 ⟨rfl, hw2⟩; have HU := Lib.hid (HS.out.upd' hcb (show Upd c (H || clampH x (-M) M) wr.drew w2 from by rw [← hw2]; exact Upd.set c _ _)); clear hw2 HS; have HS := HU; clear HU
   (try dsimp only)
   (try simp only [Act.put, nA, nB, nC])
   clear hHeld
   refine hK.out _ _ ?_ (fun hHeld => ?_)
   ·exact (HS.out.b.cell (i := j) j24).trans (congrArg (fun z => some (Go.Value.int .i64 z)) HME.out)
   clear hK K
   (try simp only [Act.put, nA, nB, nC])
   refine wpAnyM_one 14 rfl (by kernel_rfl) (fun K hK => ?_)
   go_simp
   refine hK.out _ _ (.inl (by kernel_rfl)) (fun _ => ?_)
   clear hK K
   (try simp only [Act.put, nA, nB, nC])
   refine wpAnyM_done (by kernel_rfl) ?_ _
   go_upto_region 7 with fail
   have sc := HS.out.s.cell (i := j) j24
   rw [GF.out] at sc
   refine wp_region_lit ?_
   refine tv ?_
   (try simp only [Act.put, nA, nB, nC])
   refine tv ?_
   (try simp only [Act.put, nA, nB, nC])
   refine tv ?_
   (try simp only [Act.put, nA, nB, nC])
   refine tv ?_
   (try simp only [Act.put, nA, nB, nC])
   refine tv ?_
   (try simp only [Act.put, nA, nB, nC])
   refine wpList_val (v := ?_) rfl ?_ ?_
   rotate_left
   ·(go_simp; (try rw [kw]); (try with_reducible rfl))
   (try simp only [Act.put, nA, nB, nC])
   refine tv ?_
   (try simp only [Act.put, nA, nB, nC])
   refine tv ?_
   (try simp only [Act.put, nA, nB, nC])
   refine wpList_step (fun K hK => ?_)
   go_simp
   (refine (sub_any c _ y z _ (HS.out.upd.cellc HC.out) ((HS.out.upd.frozen hcb).trans HF.out)).mono ?_); (rw [GZ.out]); rintro e w3 ⟨rfl, hw3⟩; have HU := Lib.hid (HS.out.upd' hcb (show Upd c (H || clampH x (-M) M || satH y || satH z || satH (satV y - satV z)) w2 w3 from by rw [← hw3]; exact Upd.set c _ _)); clear hw3 HS sc; have HS := HU; clear HU; (rw [GL.out] at HS); have HA := Lib.hid (HS.out.down ((Below.refl _ _).alloc (Nat.le_refl _) (.cells #[.int .i64 d] 2))); have hbz := HS.out.b.lt
   (try dsimp only)
   (try simp only [Act.put, nA, nB, nC])
   refine hK _ _ ?_
   clear hK K
   refine wpList_act (v := ?_) (w' := ?_) rfl ?_ ?_
   rotate_left 2
   ·(go_simp; (try (first | with_reducible rfl | (constructor <;> with_reducible rfl))))
   (try simp only [Act.put, nA, nB, nC])
   (refine wpList_app1 rfl (.tmp 36) (.tmp 45) rfl (bb + 1) rfl HA.out.own w3.heap.size 1 d rfl (by simp [go_sem]) (by omega) (by simp; omega) (w3.heap.size + 1) (by simp) ?_; intro g1 cp1 w4 hO1 hg1 hat1 hlt1; have HG := Lib.hid (HA.out.grown hg1 (hO1.congr (snoc_fun3 GD.out.symm))); clear hO1 hg1 hat1 hlt1 HA HS hbz)
   refine tv ?_
   (try simp only [Act.put, nA, nB, nC])
   refine wpList_nil ?_
   go_upto_region 8 with fail
   have sf := HG.out.s.free j
   have sc := HG.out.s.cell (i := j) j24
   refine wp_region_lit ?_
   refine tv ?_
   (try simp only [Act.put, nA, nB, nC])
   refine tv ?_
   (try simp only [Act.put, nA, nB, nC])
   refine wpList_val (v := ?_) rfl ?_ ?_
   rotate_left
   ·(go_simp; (try rw [kw]); (try with_reducible rfl))
   (try simp only [Act.put, nA, nB, nC])
   refine tv ?_
   (try simp only [Act.put, nA, nB, nC])
   refine tv ?_
   (try simp only [Act.put, nA, nB, nC])
   refine wpList_done (w' := ?_) rfl ?_ ?_
   rotate_left
   ·(go_simp; (try (first | with_reducible rfl | (constructor <;> with_reducible rfl))))
   (try simp only [Act.put, nA, nB, nC])
   refine wpList_nil ?_
   have HK := Lib.hid (HG.out.set j y)
   rw [← GS.out, ← HDD.out] at HK
   generalize w4.setCell ⟨w.heap.size, j, none⟩ (.int .i64 y) = W5 at *
   clear sf sc HG
   go_wp2_with fail
   go_roundw
   case rel => exact ⟨k + 1, _, by omega, by go_num, rfl, HK⟩
   case measure => simp [intOf]; omega
  ·obtain rfl : k = n := by omega
   have d1 : decide (k < k) = false := by simp
   have d2 : decide ((k : Int) < (k : Int)) = false := by simp
   obtain ⟨F, hF⟩ : ∃ x, mvS S fr L k = x := ⟨_, rfl⟩
   obtain ⟨D, hD⟩ : ∃ x, mvD S fr L = x := ⟨_, rfl⟩
   obtain ⟨H, hH⟩ : ∃ x, (h || orB (mvB S fr L) k) = x := ⟨_, rfl⟩
   rw [hF, hD, hH] at R
   have HE := Lib.hid (And.intro hF (And.intro hD hH))
   clear hF hD hH
   have P0 := R.out.s
   have KC := Lib.hid (keep_any c H F wr (R.out.upd.cellc HC.out) ((R.out.upd.frozen hcb).trans HF.out))
   go_upto_region 10 with fail
   refine wp_region_lit ?_
   refine tv ?_
   (try simp only [Act.put, nA, nB, nC])
   refine wpList_val (v := ?_) rfl ?_ ?_
   rotate_left
   ·refine Eq.trans (run_load_row 23 (.tmp 5) (by rfl) (w.heap.size) (by rfl) _ _ _ _ (P0) Tryz.underlying23 rfl (ist.trans (by rw [arrv_size]))) ?_; with_reducible rfl
   (try simp only [Act.put, nA, nB, nC])
   refine wpList_step (fun K hK => ?_)
   go_simp
   (refine KC.out.mono ?_); rintro e w2 ⟨rfl, hu⟩; have R1 := Lib.hid (R.out.upd' hcb hu); clear hu R P0 KC; have P1 := R1.out.r
   (try dsimp only)
   (try simp only [Act.put, nA, nB, nC])
   refine hK _ _ ?_
   clear hK K
   refine tv ?_
   (try simp only [Act.put, nA, nB, nC])
   refine wpList_done (w' := ?_) rfl ?_ ?_
   rotate_left
   ·refine Eq.trans (run_store_row 23 (.tmp 8) (.tmp 55) (by rfl) (w.heap.size + 1) (by rfl) (by rfl) (P1) (ist.trans rfl)) ?_; with_reducible rfl
   (try simp only [Act.put, nA, nB, nC])
   refine tv ?_
   (try simp only [Act.put, nA, nB, nC])
   refine wpList_nil ?_
   have D1 := Lib.hid (P1.setRow (keepF F))
   have DU := Lib.hid (R1.out.upd.then' (below_row (Below.refl _ _) (show w.heap.size ≤ w.heap.size + 1 by omega) (arrv 24 (keepF F))))
   have DO := Lib.hid (R1.out.own.rowk (k := w.heap.size + 1) (arrv 24 (keepF F)) (by have := R1.out.lt; omega))
   have hbz := R1.out.lt
   generalize w2.setRow (w.heap.size + 1) (arrv 24 (keepF F)) = W3 at *
   clear P1 R1
   go_wp2_with fail
   refine bodyPost_ret_by (results_row1 Tryz.results35 _ _ (w.heap.size + 1) 23 (arrv 24 (keepF F)) (0, 0) _ rfl D1.out Tryz.underlying23 rfl (ist.trans (by rw [arrv_size])) v rfl) rfl ⟨v, ?_, ?_, ?_⟩
   ·rw [HE.out.1]
   ·rw [HE.out.2.1]; exact DO.out.raise (by omega)
   ·rw [HE.out.1, HE.out.2.2]; exact DU.out
end Go.Proofs.YtgfklheepkgedaaGreat
/- A slice of vectors that a call builds by append: one of one vector, appended. -/
namespace Go.Proofs.YtgfklheepkgedaaGreat
open Go.RowKit
open Go
set_option maxRecDepth 100000
/-- The cells of n vectors. -/
def vcells (n : Nat) (L : Nat → Nat → Int) : List Value := (List.range n).flatMap fun i => [.int .i64 (L i 0), .int .i64 (L i 1), .int .i64 (L i 2)]
theorem vcells_succ (n : Nat) (L : Nat → Nat → Int) : vcells (n + 1) L = vcells n L ++ [.int .i64 (L n 0), .int .i64 (L n 1), .int .i64 (L n 2)] := by
 simp [vcells, List.range_succ, List.flatMap_append]
theorem vcells_len : ∀ (n : Nat) (L : Nat → Nat → Int), (vcells n L).length = n * 3
 | 0, _ => rfl
 | n + 1, L => by rw [vcells_succ, List.length_append, vcells_len n L]; simp; omega
theorem vcells_get {L : Nat → Nat → Int} : ∀ {n k : Nat}, k < n → ∀ j, j < 3 → (vcells n L)[k * 3 + j]? = some (.int .i64 (L k j))
 | 0, _, h, _, _ => by omega
 | n + 1, k, h, j, hj => by
  have hl := vcells_len n L
  rw [vcells_succ]
  by_cases e : k = n
  ·subst e
   rw [List.getElem?_append_right (by omega), hl, show k * 3 + j - k * 3 = j by omega]
   obtain rfl | rfl | rfl : j = 0 ∨ j = 1 ∨ j = 2 := by omega
   all_goals rfl
  ·rw [List.getElem?_append_left (by omega)]
   exact vcells_get (n := n) (k := k) (by omega) j hj
def OwnV (w : World) (B : Nat) (v : Value) (n : Nat) (L : Nat → Nat → Int) : Prop := w.ownsRow B 28 3 v n (vcells n L)
theorem OwnV.nil (w : World) (B : Nat) (L : Nat → Nat → Int) : OwnV w B (.slice none 0 0) 0 L := World.ownsRow_nil w B 28 3
theorem OwnV.kept {w w' : World} {B : Nat} {v : Value} {n : Nat} {L : Nat → Nat → Int} (h : OwnV w B v n L) (hs : ∀ k, B ≤ k → k < w.heap.size → some k = v.ownBlock → w'.heap[k]? = w.heap[k]?) : OwnV w' B v n L := by
 refine ⟨h.1, ?_⟩
 rcases h.2 with hn | ⟨g, cap, cur, rfl, hb, hgg, rest⟩
 ·exact .inl hn
 ·refine .inr ⟨g, cap, cur, rfl, hb, ?_, rest⟩
  rw [hs g hb (Array.getElem?_eq_some_iff.1 hgg).1 rfl]
  exact hgg
theorem OwnV.below {w w' : World} {B : Nat} {v : Value} {n : Nat} {L : Nat → Nat → Int} (h : OwnV w B v n L) (b : Below w.heap.size w w') : OwnV w' B v n L := h.kept fun k _ hk _ => b.block k hk
theorem OwnV.upd {w w' : World} {B : Nat} {v : Value} {n : Nat} {L : Nat → Nat → Int} (h : OwnV w B v n L) {c : Addr} {f : Bool} (u : Upd c f w w') (hc : c.block < B) : OwnV w' B v n L := h.kept fun k hB hk _ => u.block hk (by omega)
theorem OwnV.row {w : World} {B k : Nat} {v : Value} {n : Nat} {L : Nat → Nat → Int} (h : OwnV w B v n L) (cs : Array Value) (hk : v.ownBlock ≠ some k) : OwnV (w.setRow k cs) B v n L := h.kept fun j _ _ e => Go.setRow_other w k j cs (fun e2 => hk (by rw [← e, e2]))
theorem OwnV.grown {w w' : World} {B : Nat} {v : Value} {n : Nat} {L : Nat → Nat → Int} (h : OwnV w B v n L) {r : Option Nat} (g : w.grownBy w' r) (hn : ∀ k, v.ownBlock = some k → r ≠ some k) : OwnV w' B v n L :=
 h.kept fun k _ hk e => g.block k hk (fun e2 => hn k e.symm e2.symm)
theorem OwnV.blk {w : World} {B : Nat} {v : Value} {n : Nat} {L : Nat → Nat → Int} (h : OwnV w B v n L) {g : Nat} (e : v.ownBlock = some g) : B ≤ g ∧ g < w.heap.size := by
 rcases h.2 with ⟨rfl, _⟩ | ⟨g', cap, cur, rfl, hb, hgg, _⟩
 ·cases e
 ·simp [Value.ownBlock] at e; subst e; exact ⟨hb, (Array.getElem?_eq_some_iff.1 hgg).1⟩
/-- As a slice: its vectors. -/
theorem OwnV.slc {w : World} {B : Nat} {v : Value} {n : Nat} {L : Nat → Nat → Int} (h : OwnV w B v n L) :
  (n = 0 ∧ v = .slice none 0 0) ∨ ∃ g cp, v = .slice (some ⟨g, 0, none⟩) n cp ∧ B ≤ g ∧ g < w.heap.size ∧ VLs w g 0 n L := by
 rcases h.2 with ⟨hv, h0⟩ | ⟨g, cap, cur, rfl, hb, hgg, h1, h2, h3, h4⟩
 ·exact .inl ⟨h0, hv⟩
 ·refine .inr ⟨g, cap, rfl, hb, (Array.getElem?_eq_some_iff.1 hgg).1, fun j hj k hk => ?_⟩
  rw [Nat.zero_add, cell_of_row w g (j * 3 + k) cur 28 (0, 0) hgg]
  have hh := vcells_get (L := L) hj k hk
  rw [← h4, List.getElem?_take] at hh
  split at hh
  ·simpa using hh
  ·cases hh
theorem info_V' : ∃ i, Tryz.prog.info? 28 = some i ∧ i.zero = some (.agg #[.int .i64 0, .int .i64 0, .int .i64 0]) ∧ i.size = 3 ∧ i.bytes = 24 := by
 have h : (Tryz.prog.info? 28).map (fun i => (i.zero, i.size, i.bytes)) = some (some (.agg #[.int .i64 0, .int .i64 0, .int .i64 0]), 3, 24) := by kernel_rfl
 cases e : Tryz.prog.info? 28 with
 | none => rw [e] at h; cases h
 | some i => rw [e] at h; simp at h; exact ⟨i, rfl, h.1, h.2.1, h.2.2⟩
theorem run_appV {w : World} (B : Nat) {v : Value} {n : Nat} {L : Nat → Nat → Int} (hown : OwnV w B v n L) (nb c : Nat) (hx : Blk w nb 28 3 (L n)) (hn : n ≤ 1000000) (hB : B ≤ w.heap.size) (ty : TypeId) (H : Nat) (hH : w.heap.size = H) :
  ∃ g cap w', (Builtin.append_ #[84, 84] ty #[v, .slice (some ⟨nb, 0, none⟩) 1 c]).run Tryz.prog w = .ok (.slice (some ⟨g, 0, none⟩) (n + 1) cap) w' ∧
   OwnV w' B (.slice (some ⟨g, 0, none⟩) (n + 1) cap) (n + 1) L ∧ w.grownBy w' v.ownBlock ∧ (v.ownBlock = some g ∨ g = H) ∧ g < w'.heap.size := by
 obtain ⟨i, hi, hz, hs, hb⟩ := info_V'
 obtain ⟨g, cap, w', h1, h2, h3, h4, h5⟩ := run_append_lies (P := Tryz.prog) w 84 ty B 28 i _ 3 24 Tryz.underlying84 hi hz hs hb rfl (by decide) v n (vcells n L) hown ⟨nb, 0, none⟩ 1 c [.int .i64 (L n 0), .int .i64 (L n 1), .int .i64 (L n 2)] rfl
  (fun j u hu => by
   have hj : j < 3 := (List.getElem?_eq_some_iff.1 hu).1
   have hc := hx.cell (i := j) hj
   obtain rfl | rfl | rfl : j = 0 ∨ j = 1 ∨ j = 2 := by omega
   ·simp at hu; rw [← hu]; simpa [Addr.add] using hc
   ·simp at hu; rw [← hu]; simpa [Addr.add] using hc
   ·simp at hu; rw [← hu]; simpa [Addr.add] using hc) (fun u hu => by simp at hu; rcases hu with rfl | rfl | rfl <;> rfl) (by decide) (by unfold maxLen; omega) (by omega) hB H hH
 exact ⟨g, cap, w', h1, by unfold OwnV; rw [vcells_succ]; exact h2, h3, h4, h5⟩
theorem step_appV {w : World} {ops : Array Oper} {o : Oper} {a : Act} {K : Act → World → Prop} {Q : Exit → Act → World → Prop} {E : Prop} (hgd : o.guard = none) (s x : Operand)
  (ho : o.op = .call { callee := .builtin .append, args := #[s, x], argTypes := #[84, 84] })
  (B : Nat) {v : Value} {n : Nat} {L : Nat → Nat → Int} (hs : a.eval s = v) (hown : OwnV w B v n L) (nb c : Nat) (hx : a.eval x = .slice (some ⟨nb, 0, none⟩) 1 c) (hy : Blk w nb 28 3 (L n)) (hn : n ≤ 1000000) (hB : B ≤ w.heap.size) (H : Nat) (hH : w.heap.size = H)
  (h : ∀ g cap w', OwnV w' B (.slice (some ⟨g, 0, none⟩) (n + 1) cap) (n + 1) L → w.grownBy w' v.ownBlock → (v.ownBlock = some g ∨ g = H) → g < w'.heap.size → K (a.put o.dst (.slice (some ⟨g, 0, none⟩) (n + 1) cap)) w') :
  if Region.wanted o (yielded ops a.tmps) = true then Oper.wp Tryz.prog o a w K Q else E := by
 have hw : Region.wanted o (yielded ops a.tmps) = true := by simp [Region.wanted, hgd]
 rw [if_pos hw]
 obtain ⟨g, cap, w', hr, h2, h3, h4, h5⟩ := run_appV B hown nb c hy hn hB o.type H hH
 unfold Oper.wp execOp
 simp only [ho, resolve, invoke, builtin, Sem.run_bind, Sem.run_pure, Result.andThen_ok, List.map_toArray, List.map_cons, List.map_nil, hs, hx, hr]
 exact h g cap w' h2 h3 h4 h5
theorem fillv1 (A : Nat → Int) (Z : Array Value) (hZ : Z = arrv 3 (fun _ => 0)) : Instr.fill (fun i => some (i * 3, 3)) Z [(0, .agg (arrv 3 A))] = some (arrv 3 A) := by
 subst hZ; kernel_rfl
theorem zrange3 (Z : Array Value) (hZ : Z = arrv 3 (fun _ => 0)) : (Array.range (1 * 3)).map (fun i => Z[i % Z.size]!) = arrv 3 (fun _ => 0) := by
 subst hZ; kernel_rfl
theorem run_bslv1 (A : Nat → Int) (w : World) : (Instr.buildSlice 84 1 #[(0, .agg (arrv 3 A))]).run Tryz.prog w = .ok (.slice (some ⟨w.heap.size, 0, none⟩) 1 1) (w.alloc (.cells (arrv 3 A) 28)) := by
 have hz : (zeroValue 28).run Tryz.prog w = .ok (.agg (arrv 3 (fun _ => 0))) w := by kernel_rfl
 have hs : (sizeOf 28).run Tryz.prog w = .ok 3 w := by kernel_rfl
 unfold Instr.buildSlice
 simp only [Sem.run_bind, run_underlying Tryz.underlying84, Result.andThen_ok, hs]
 rw [if_neg (by decide), if_neg (by decide)]
 have hf : Instr.fill (fun i => some (i * 3, 3)) (Array.map (fun x => (Value.agg (arrv 3 (fun _ => 0))).cells[x % (Value.agg (arrv 3 (fun _ => 0))).cells.size]!) (Array.range (1 * 3))) [(0, Value.agg (arrv 3 A))] = some (arrv 3 A) :=
  fillv1 A _ (zrange3 (arrv 3 (fun _ => 0)) rfl)
 simp only [Sem.run_bind, hz, Result.andThen_ok, Sem.run_pure, hf]
 simp [newRow, newObj, go_sem]
 rfl
theorem wp_bslv1 {o : Oper} {a : Act} {w : World} {K : Act → World → Prop} {Q : Exit → Act → World → Prop} {A : Nat → Int} (x : Operand) (ho : o.op = .buildSlice 84 1 #[(0, x)])
  (hx : a.eval x = .agg (arrv 3 A)) (h : K (a.put o.dst (.slice (some ⟨w.heap.size, 0, none⟩) 1 1)) (w.alloc (.cells (arrv 3 A) 28))) : o.wp Tryz.prog a w K Q := by
 unfold Oper.wp execOp
 simp only [ho, Sem.run_bind, List.map_toArray, List.map_cons, List.map_nil, hx, run_bslv1 A w, Result.andThen_ok]
 exact h
end Go.Proofs.YtgfklheepkgedaaGreat
/- Sums of nothing: fx.Add and vec.Add without numbers. -/
namespace Go.Proofs.YtgfklheepkgedaaGreat
open Go.RowKit
set_option maxRecDepth 100000
set_option maxHeartbeats 2000000 in
theorem fadd0_any (c : Addr) (h : Bool) (w : World) (hc : w.cell? c = some (.bool h)) (hf : w.frozen? c = false) :
  Calls Tryz.prog 75 #[.pointer (some c), .slice none 0 0] w fun e w' => e = .returned (.int .i64 0) ∧ Upd c h w w' := by
 have hcb := World.block_lt_of_cell? w c hc
 have HC := Lib.hid hc
 have HF := Lib.hid hf
 clear hc hf
 go_enter Tryz.func75, Tryz.ntmps75
 go_wp2_with fail
 go_loopw [12] (fun i wr => i = .int .i64 0 ∧ Hid (AddR c h (fun _ => 0) w 0 wr)) (fun i _ => 0)
 case atStart =>
  refine ⟨rfl, ⟨?_, by simp [sumS, hi64], by simp [sumS, lo64], by simp, by simp, by simp⟩⟩
  rw [show (h || sumB (fun _ => 0) 0) = h from by simp [sumB]]
  exact Upd.then (Upd.refl HC.out) (by (repeat (first | with_reducible exact Below.refl _ _ | with_reducible apply Below.drew | (with_reducible refine below_drewN ?_ _) | (with_reducible refine Below.alloc ?_ (by (try simp) <;> omega) _) | (with_reducible refine Below.setCell ?_ (by (try simp) <;> omega) _))))
 case round =>
  obtain ⟨rfl, R⟩ := hrel
  have u := R.out.upd
  have rc : wr.cell? c = some (.bool (h || sumB (fun _ => 0) 0)) := u.cellc HC.out
  have rf : wr.frozen? c = false := (u.frozen hcb).trans HF.out
  have s0 := R.out.c0
  have s1 := R.out.c1
  have RSZ := R.out.sz
  have HU := Lib.hid u
  rw [show (h || sumB (fun _ => 0) 0) = h from by simp [sumB]] at rc
  rw [show sumS (fun _ => 0) 0 = 0 from rfl] at s0 s1
  clear u
  go_wp2_with fail
  refine (round_any 0 0 _ (by decide) (by decide) (by omega) (by omega)).mono ?_; rintro e w5 ⟨rfl, hb5⟩
  have rc5 : w5.cell? c = some (.bool h) := (hb5.cell (World.block_lt_of_cell? _ _ rc)).trans rc
  have rf5 : w5.frozen? c = false := (hb5.frozen (World.block_lt_of_cell? _ _ rc)).trans rf
  have s5 : w5.cell? ⟨w.heap.size, 0, none⟩ = some (.int .i64 (hi64 0)) := (hb5.cell RSZ).trans s0
  have H5 := Lib.hid hb5
  clear hb5 rc rf s0 s1
  go_wp2_with fail
  refine (end_any c _ (rsh 0 0) _ _ rc5 rf5 (fun hn => by rw [hi_neg]; exact rsh_neg _ _ hn)).mono ?_; rintro e w6 ⟨rfl, rfl⟩
  go_wp2_with fail
  go_ret
  rw [rsh_zero]
  refine ⟨congrArg (fun x => Go.Ending.returned (Go.Value.int .i64 x)) (show satV 0 = 0 by decide), ?_⟩
  have E : (h || satH 0) = h := by rw [show satH 0 = false by decide, Bool.or_false]
  rw [E]
  have U := HU.out
  rw [show (h || sumB (fun _ => 0) 0) = h from by simp [sumB]] at U
  exact U.trans (Upd.after H5.out (Upd.set c _ _))
/-- The blocks of vec.Add of nothing. -/
structure VzR (c : Addr) (h : Bool) (w wr : World) : Prop where
 upd : Upd c h w wr
 r : Blk wr w.heap.size 28 3 (fun _ => 0)
 ou : Blk wr (w.heap.size + 1) 28 3 (fun _ => 0)
theorem upd0 (i : Nat) : ∀ j, Go.Proofs.YtgfklheepkgedaaGreat.upd (fun _ => (0 : Int)) i 0 j = 0 := fun j => by unfold Go.Proofs.YtgfklheepkgedaaGreat.upd; split <;> rfl
set_option maxHeartbeats 4000000 in
theorem vadd0_any (c : Addr) (h : Bool) (w : World) (hc : w.cell? c = some (.bool h)) (hf : w.frozen? c = false) :
  Calls Tryz.prog 37 #[.pointer (some c), .slice none 0 0] w fun e w' => e = .returned (.agg (arrv 3 (fun _ => 0))) ∧ Upd c h w w' := by
 have hcb := World.block_lt_of_cell? w c hc
 have S0 : Hid (VzR c h w ((w.alloc (.cells #[.int .i64 0, .int .i64 0, .int .i64 0] 28)).alloc (.cells #[.int .i64 0, .int .i64 0, .int .i64 0] 28))) := Lib.hid (by
  rw [zv3]
  exact ⟨Upd.then (Upd.refl hc) (by (repeat (first | with_reducible exact Below.refl _ _ | with_reducible apply Below.drew | (with_reducible refine below_drewN ?_ _) | (with_reducible refine Below.alloc ?_ (by (try simp) <;> omega) _) | (with_reducible refine Below.setCell ?_ (by (try simp) <;> omega) _)))), (Blk.new w _ 3 _).alloc _, Blk.new1 w _ _ 3 _⟩)
 have HC := Lib.hid hc
 have HF := Lib.hid hf
 clear hc hf
 go_enter Tryz.func37, Tryz.ntmps37
 go_upto_region 2 with fail
 generalize (w.alloc (.cells #[.int .i64 0, .int .i64 0, .int .i64 0] 28)).alloc (.cells #[.int .i64 0, .int .i64 0, .int .i64 0] 28) = W0 at *
 go_wp2_with fail
 go_loopw [10] (fun i wr => ∃ k : Nat, k ≤ 3 ∧ i = .int .i64 k ∧ Hid (VzR c h w wr)) (fun i _ => 3 - (intOf i).toNat)
 case atStart => exact ⟨0, by omega, rfl, S0⟩
 case round =>
  obtain ⟨k, hk, rfl, R⟩ := hrel
  clear S0
  by_cases hlt : k < 3
  ·have d1 : decide ((k : Int) < 3) = true := by simp; omega
   have k0 : (0 : Int) ≤ (k : Int) := Int.natCast_nonneg _
   have k1 : (k : Int) < 3 := by omega
   go_upto_region 6 with fail
   go_wp2_with fail
   go_loopw [7, 15] (fun u j wr => u = .slice none 0 0 ∧ j = .int .i64 0 ∧ Hid (VzR c h w wr)) (fun _ _ _ => 0)
   case atStart => exact ⟨rfl, rfl, R⟩
   case round =>
    obtain ⟨rfl, rfl, T⟩ := hrel
    clear R
    have FC := Lib.hid (fadd0_any c h wr (T.out.upd.cellc HC.out) ((T.out.upd.frozen hcb).trans HF.out))
    go_upto_region 11 with fail
    go_wp2_with (go_at_call 75; (refine FC.out.mono ?_); rintro e w4 ⟨rfl, hu4⟩; have V4 := Lib.hid (show VzR c h w w4 from ⟨T.out.upd.trans hu4, T.out.r.upd hu4 (by omega), T.out.ou.upd hu4 (by omega)⟩); clear hu4 FC T; have a0 := V4.out.ou.cell hlt; have a1 := V4.out.ou.free k)
    go_roundw
    case rel => exact ⟨k + 1, by omega, by go_num, Lib.hid ⟨V4.out.upd.setCell (by simp) _, V4.out.r.other (by simp) _, (V4.out.ou.set k 0).congr fun i _ => upd0 k i⟩⟩
    case measure => simp [intOf]; omega
  ·have hk3 : k = 3 := by omega
   subst hk3
   have U := Lib.hid R.out.upd
   have B0 := R.out.ou
   have B1 := R.out.r
   obtain ⟨Z, hZ⟩ : ∃ Z : Nat → Int, (fun _ => (0 : Int)) = Z := ⟨_, rfl⟩
   rw [hZ] at B0
   have HZ := Lib.hid hZ
   clear R hZ
   rw [show ((3 : Nat) : Int) = 3 from rfl]
   go_wp2_with (first | (refine wpList_load_row rfl 28 _ rfl (w.heap.size + 1) rfl 28 _ (0, 0) _ (B0) Tryz.underlying28 rfl (iv3.trans (by rw [arrv_size])) ?_) | (refine wpList_store_row rfl 28 _ _ rfl (w.heap.size) _ rfl rfl 28 _ (B1) (iv3.trans (by rw [arrv_size])) (by rw [arrv_size, arrv_size]) (oneCell_arrv _ _) ?_))
   refine bodyPost_ret (results_cell_row Tryz.results37 _ _ w.heap.size 28 (arrv 3 Z) (0, 0) _ rfl (setRow_heap _ _ _ _ _ _ B1) Tryz.underlying28 rfl (iv3.trans (by rw [arrv_size]))) rfl ⟨by rw [HZ.out], ?_⟩
   exact U.out.then' (below_row (Below.refl _ _) (by omega) _)
end Go.Proofs.YtgfklheepkgedaaGreat
/- Contract of tri.Condition. -/
namespace Go.Proofs.YtgfklheepkgedaaGreat
open Go.RowKit
set_option maxRecDepth 100000
theorem variance_any (c : Addr) (h : Bool) (a : Int) (w : World) (hc : w.cell? c = some (.bool h)) (hf : w.frozen? c = false) :
  Calls Tryz.prog 39 #[.pointer (some c), .int .i64 a] w fun e w' => e = .returned (.int .i64 (clampV a 1 72057594037927936)) ∧ w.setCell c (.bool (h || clampH a 1 72057594037927936)) = w' := by
 go_enter Tryz.func39, Tryz.ntmps39
 go_wp2_with (go_at_call 72; refine (clamp_any c h a _ _ _ hc hf).mono ?_; rintro e w' ⟨rfl, rfl⟩)
 go_ret
 exact ⟨rfl, rfl⟩
/-- A covariance as 300 numbers: U's first, then D's. -/
def condF (f : Nat → Int) : Nat → Int := fun i => if i < 276 then satV (f i) else varV (f i)
def condH (f : Nat → Int) : Bool := orB (fun i => varH (f (276 + i))) 24 || orB (fun i => satH (f i)) 276
def condD (f : Nat → Int) (k : Nat) : Nat → Int := fun i => if 276 ≤ i ∧ i < 276 + k then varV (f i) else f i
def condU (f : Nat → Int) (k : Nat) : Nat → Int := fun i => if i < k then satV (f i) else if 276 ≤ i then varV (f i) else f i
structure CondR (c : Addr) (h : Bool) (g : Nat → Int) (w wr : World) : Prop where
 upd : Upd c h w wr
 blk : Blk wr w.heap.size 26 300 g
 res : Blk wr (w.heap.size + 1) 26 300 (fun _ => 0)
theorem zcov : Tryz.zeroCells26 = arrv 300 (fun _ => 0) := by kernel_rfl
theorem icov : (Tryz.prog.info? 26).map (·.size) = some 300 := by kernel_rfl
theorem cond_any (c : Addr) (h : Bool) (f : Nat → Int) (w : World) (hc : w.cell? c = some (.bool h)) (hf : w.frozen? c = false) :
  Calls Tryz.prog 88 #[.pointer (some c), .agg (arrv 300 f)] w fun e w' => e = .returned (.agg (arrv 300 (condF f))) ∧ Upd c (h || condH f) w w' := by
 have hcb := World.block_lt_of_cell? w c hc
 have HC := Lib.hid hc
 have HF := Lib.hid hf
 clear hc hf
 go_enter Tryz.func88, Tryz.ntmps88
 go_wp2_with fail
 go_loopw [7] (fun i wr => ∃ k : Nat, k ≤ 24 ∧ i = .int .i64 k ∧ Hid (CondR c (h || orB (fun i => varH (f (276 + i))) k) (condD f k) w wr)) (fun i _ => 24 - (intOf i).toNat)
 case atStart =>
  refine ⟨0, by omega, rfl, ⟨?_, ?_, ?_⟩⟩
  ·rw [show (h || orB (fun i => varH (f (276 + i))) 0) = h from by simp [orB]]
   exact Upd.then (Upd.refl HC.out) (by (repeat (first | with_reducible exact Below.refl _ _ | with_reducible apply Below.drew | (with_reducible refine below_drewN ?_ _) | (with_reducible refine Below.alloc ?_ (by (try simp) <;> omega) _) | (with_reducible refine Below.setCell ?_ (by (try simp) <;> omega) _))))
  ·exact (Blk.alloc (Blk.new w _ 300 f) _).congr fun i hi => by simp [condD]; omega
  ·rw [zcov]; exact Blk.new1 w _ _ 300 _
 case round =>
  obtain ⟨k, hk, rfl, R⟩ := hrel
  by_cases hlt : k < 24
  ·have rc := R.out.upd.cellc HC.out
   have rf := (R.out.upd.frozen hcb).trans HF.out
   have b0 := R.out.blk.cell (i := 276 + k) (by omega)
   have b1 := R.out.blk.free (276 + k)
   have n0 := ne_of_cells rc b0
   have hv : condD f k (276 + k) = f (276 + k) := by simp [condD]
   rw [hv] at b0
   clear hv
   go_wp2_with (go_at_call 39; refine (variance_any c _ _ _ rc rf).mono ?_; rintro e w' ⟨rfl, rfl⟩)
   go_roundw
   case rel =>
    refine ⟨k + 1, by omega, by go_num, ⟨?_, ?_, ?_⟩⟩
    ·rw [show (h || orB (fun i => varH (f (276 + i))) (k + 1)) = (h || orB (fun i => varH (f (276 + i))) k || clampH (f (276 + k)) 1 72057594037927936) from by simp [orB, varH, Bool.or_assoc]]
     exact (R.out.upd.trans (Upd.set c _ _)).setCell (Nat.le_refl _) _
    ·refine ((R.out.blk.other (R.out.blk.flag rc) _).set _ _).congr fun i hi => ?_
     simp only [Go.Proofs.YtgfklheepkgedaaGreat.upd, condD, varV]
     by_cases h1 : i = 276 + k
     ·subst h1; simp
     ·rw [if_neg h1]; split <;> split <;> first | rfl | omega
    ·exact (R.out.res.other (R.out.res.flag rc) _).other (by simp) _
   case measure => simp [intOf]; omega
  ·have hk24 : k = 24 := by omega
   subst hk24
   have HR := R
   clear R hlt hk
   rw [show ((24 : Nat) : Int) = 24 from rfl]
   go_wp2_with fail
   go_loopw [20] (fun i wr => ∃ k : Nat, k ≤ 276 ∧ i = .int .i64 k ∧ Hid (CondR c (h || orB (fun i => varH (f (276 + i))) 24 || orB (fun i => satH (f i)) k) (condU f k) w wr)) (fun i _ => 276 - (intOf i).toNat)
   case atStart =>
    refine ⟨0, by omega, rfl, ⟨?_, HR.out.blk.congr fun i hi => by simp [condD, condU]; split <;> split <;> first | rfl | omega, HR.out.res⟩⟩
    rw [show (h || orB (fun i => varH (f (276 + i))) 24 || orB (fun i => satH (f i)) 0) = (h || orB (fun i => varH (f (276 + i))) 24) from by simp [orB]]
    exact HR.out.upd
   case round =>
    obtain ⟨k, hk, rfl, R⟩ := hrel
    by_cases hlt : k < 276
    ·have rc := R.out.upd.cellc HC.out
     have rf := (R.out.upd.frozen hcb).trans HF.out
     have b0 := R.out.blk.cell (i := k) (by omega)
     have b1 := R.out.blk.free k
     have n0 := ne_of_cells rc b0
     have hv : condU f k k = f k := by simp [condU]; omega
     rw [hv] at b0
     clear hv
     go_wp2_with (go_at_call 72; refine (clamp_any c _ _ _ _ _ rc rf).mono ?_; rintro e w' ⟨rfl, rfl⟩)
     go_roundw
     case rel =>
      refine ⟨k + 1, by omega, by go_num, ⟨?_, ?_, ?_⟩⟩
      ·rw [show (h || orB (fun i => varH (f (276 + i))) 24 || orB (fun i => satH (f i)) (k + 1)) = (h || orB (fun i => varH (f (276 + i))) 24 || orB (fun i => satH (f i)) k || clampH (f k) (-1152921504606846976) 1152921504606846976) from by simp [orB, satH, Bool.or_assoc]]
       exact (R.out.upd.trans (Upd.set c _ _)).setCell (Nat.le_refl _) _
      ·refine ((R.out.blk.other (R.out.blk.flag rc) _).set _ _).congr fun i hi => ?_
       simp only [Go.Proofs.YtgfklheepkgedaaGreat.upd, condU, satV]
       by_cases h1 : i = k
       ·subst h1; simp
       ·rw [if_neg h1]; repeat' split
        all_goals first | rfl | omega
      ·exact (R.out.res.other (R.out.res.flag rc) _).other (by simp) _
     case measure => simp [intOf]; omega
    ·have hk276 : k = 276 := by omega
     subst hk276
     have B0 := R.out.blk
     have B1 := R.out.res
     have U := Lib.hid R.out.upd
     have hl := B1.lt
     clear R hlt hk HR
     go_wp2_with (first | (refine wpList_load_row rfl 26 _ rfl w.heap.size rfl 26 _ (0, 0) _ B0 Tryz.underlying26 rfl (icov.trans (by rw [arrv_size])) ?_) | (refine wpList_store_row rfl 26 _ _ rfl (w.heap.size + 1) _ rfl rfl 26 _ B1 (icov.trans (by rw [arrv_size])) (by rw [arrv_size, arrv_size]) (oneCell_arrv _ _) ?_))
     refine bodyPost_ret (results_cell_row Tryz.results88 _ _ (w.heap.size + 1) 26 (arrv 300 (condU f 276)) (0, 0) _ rfl (setRow_heap _ _ _ _ _ _ B1) Tryz.underlying26 rfl (icov.trans (by rw [arrv_size]))) rfl ⟨?_, ?_⟩
     ·rw [arrv_congr (g := condF f) fun i hi => ?_]
      simp only [condU, condF]
      by_cases h1 : i < 276
      ·simp [h1]
      ·rw [if_neg h1, if_neg h1, if_pos (by omega)]
     ·rw [show (h || condH f) = (h || orB (fun i => varH (f (276 + i))) 24 || orB (fun i => satH (f i)) 276) from by simp [condH, Bool.or_assoc]]
      exact U.out.then' (below_row (Below.refl _ _) (by omega) _)
end Go.Proofs.YtgfklheepkgedaaGreat
/- Contracts of package tri (2): Good, place, U, Set. -/
namespace Go.Proofs.YtgfklheepkgedaaGreat
open Go.RowKit
set_option maxRecDepth 100000
theorem pl_lt {i j : Nat} (h : i < j) (hj : j < 24) : pl i j < 276 := by
 unfold pl
 have : j * (j - 1) ≤ 23 * 22 := Nat.mul_le_mul (by omega) (by omega)
 omega
theorem pl_cast (i j : Nat) : ((pl i j : Nat) : Int) = (j : Int) * ((j - 1 : Nat) : Int) / 2 + (i : Int) := by
 unfold pl
 rw [← Int.natCast_mul]
 omega
theorem place_any (i j : Nat) (w : World) (_hi : i < 24) (hj : j < 24) :
  Calls Tryz.prog 118 #[.int .i64 i, .int .i64 j] w fun e w' => e = .returned (.tuple #[.int .i64 (pl i j : Nat), .bool (decide (i < j))]) ∧ w = w' := by
 have hmul : (j : Int) * ((j : Int) - 1) = ((j * (j - 1) : Nat) : Int) := by
  cases j with
  | zero => simp
  | succ n => rw [Int.natCast_mul, show ((n + 1 : Nat) : Int) - 1 = ((n + 1 - 1 : Nat) : Int) from by omega]
 have hb : j * (j - 1) ≤ 23 * 22 := Nat.mul_le_mul (by omega) (by omega)
 have hc := pl_cast i j
 have HC := Lib.hid hc
 clear hc
 by_cases h : i < j
 ·have hd : decide (i < j) = true := by simpa using h
  rw [hd]
  clear hd
  go_enter Tryz.func118, Tryz.ntmps118
  go_wp2
  go_ret2
  refine ⟨?_, rfl⟩
  rw [HC.out]
  simp only [hj, decide_true, Int.ofNat_lt, and_self]
  first | rfl | (simp; omega) | simp
 ·have hd : decide (i < j) = false := by simpa using h
  rw [hd]
  go_enter Tryz.func118, Tryz.ntmps118
  go_wp2
  go_ret2
  refine ⟨?_, rfl⟩
  rw [HC.out]
  first | rfl | (simp; done) | (simp; omega)
/-- U's number of row i and column j. -/
def uV (f : Nat → Int) (i j : Nat) : Int := if i = j then 1073741824 else if i < j then f (pl i j) else 0
theorem u_any (f : Nat → Int) (i j : Nat) (w : World) (hi : i < 24) (hj : j < 24) :
  Calls Tryz.prog 117 #[.agg (arrv 300 f), .int .i64 i, .int .i64 j] w fun e w' => e = .returned (.int .i64 (uV f i j)) ∧ Below w.heap.size w w' := by
 by_cases h : i = j
 ·subst h
  rw [show uV f i i = 1073741824 from by simp [uV]]
  go_enter Tryz.func117, Tryz.ntmps117
  go_wp2
  go_ret
  exact ⟨rfl, by (repeat (first | with_reducible exact Below.refl _ _ | with_reducible apply Below.drew | (with_reducible refine below_drewN ?_ _) | (with_reducible refine Below.alloc ?_ (by (try simp) <;> omega) _) | (with_reducible refine Below.setCell ?_ (by (try simp) <;> omega) _)))⟩
 ·have hne : ((i : Int) == (j : Int)) = false := by simp; omega
  by_cases h1 : i < j
  ·have hp := pl_lt h1 hj
   have ev : uV f i j = f (pl i j) := by simp [uV, h, h1]
   obtain ⟨p, hpp⟩ : ∃ p, pl i j = p := ⟨_, rfl⟩
   have PC := Lib.hid (place_any i j)
   rw [hpp] at hp ev PC
   rw [ev, show decide (i < j) = true from by simpa using h1] at *
   have b0 := (Blk.new w 26 300 f).cell (i := p) (by omega)
   clear h hpp ev
   go_enter Tryz.func117, Tryz.ntmps117
   go_wp2_with (go_at_call 118; refine (PC.out _ hi hj).mono ?_; rintro e w' ⟨rfl, rfl⟩)
   go_ret
   exact ⟨rfl, by (repeat (first | with_reducible exact Below.refl _ _ | with_reducible apply Below.drew | (with_reducible refine below_drewN ?_ _) | (with_reducible refine Below.alloc ?_ (by (try simp) <;> omega) _) | (with_reducible refine Below.setCell ?_ (by (try simp) <;> omega) _)))⟩
  ·have ev : uV f i j = 0 := by simp [uV, h, h1]
   have PC := Lib.hid (place_any i j)
   rw [ev]
   rw [show decide (i < j) = false from by simpa using h1] at PC
   clear h ev
   go_enter Tryz.func117, Tryz.ntmps117
   go_wp2_with (go_at_call 118; refine (PC.out _ hi hj).mono ?_; rintro e w' ⟨rfl, rfl⟩)
   go_ret
   exact ⟨rfl, by (repeat (first | with_reducible exact Below.refl _ _ | with_reducible apply Below.drew | (with_reducible refine below_drewN ?_ _) | (with_reducible refine Below.alloc ?_ (by (try simp) <;> omega) _) | (with_reducible refine Below.setCell ?_ (by (try simp) <;> omega) _)))⟩
theorem set_any (f : Nat → Int) (i j : Nat) (v : Int) (w : World) (h1 : i < j) (hj : j < 24) :
  Calls Tryz.prog 90 #[.agg (arrv 300 f), .int .i64 i, .int .i64 j, .int .i64 v] w fun e w' => e = .returned (.agg (arrv 300 (upd f (pl i j) v))) ∧ Below w.heap.size w w' := by
 have hp := pl_lt h1 hj
 have hi : i < 24 := by omega
 obtain ⟨p, hpp⟩ : ∃ p, pl i j = p := ⟨_, rfl⟩
 have pc : ∀ w, Calls Tryz.prog 118 #[.int .i64 i, .int .i64 j] w fun e w' => e = .returned (.tuple #[.int .i64 p, .bool true]) ∧ w = w' := fun w => by
  have := place_any i j w hi hj
  rwa [hpp, show decide (i < j) = true from by simpa using h1] at this
 rw [hpp] at hp ⊢
 have PC := Lib.hid pc
 clear pc hpp h1 hi hj
 go_enter Tryz.func90, Tryz.ntmps90
 go_wp2_with fail
 have A0 := (Blk.new w 26 300 f).alloc (.cells Tryz.zeroCells26 26)
 have A1 := Blk.new1 w (.cells (arrv 300 f) 26) 26 300 (fun _ => 0)
 rw [← zcov] at A1
 have hb : Below w.heap.size w ((w.alloc (.cells (arrv 300 f) 26)).alloc (.cells Tryz.zeroCells26 26)) := by (repeat (first | with_reducible exact Below.refl _ _ | with_reducible apply Below.drew | (with_reducible refine below_drewN ?_ _) | (with_reducible refine Below.alloc ?_ (by (try simp) <;> omega) _) | (with_reducible refine Below.setCell ?_ (by (try simp) <;> omega) _)))
 refine (PC.out _).mono ?_; rintro e w' ⟨rfl, rfl⟩
 generalize (w.alloc (.cells (arrv 300 f) 26)).alloc (.cells Tryz.zeroCells26 26) = W at *
 have b0 := A0.cell (i := p) (by omega)
 have b1 := A0.free p
 have B0 := A0.set p v
 have B1 := A1.other (a := ⟨w.heap.size, p, none⟩) (by simp) (.int .i64 v)
 go_wp2_with (first | (refine wpList_load_row rfl 26 _ rfl w.heap.size rfl 26 _ (0, 0) _ B0 Tryz.underlying26 rfl (icov.trans (by rw [arrv_size])) ?_) | (refine wpList_store_row rfl 26 _ _ rfl (w.heap.size + 1) _ rfl rfl 26 _ B1 (icov.trans (by rw [arrv_size])) (by rw [arrv_size, arrv_size]) (oneCell_arrv _ _) ?_))
 refine bodyPost_ret (results_cell_row Tryz.results90 _ _ (w.heap.size + 1) 26 (arrv 300 (upd f p v)) (0, 0) _ rfl (setRow_heap _ _ _ _ _ _ B1) Tryz.underlying26 rfl (icov.trans (by rw [arrv_size]))) rfl ⟨rfl, ?_⟩
 exact below_row (hb.setCell (Nat.le_refl _) _) (by omega) _
end Go.Proofs.YtgfklheepkgedaaGreat
/- Contracts of package thornton (1): One, rows. -/
namespace Go.Proofs.YtgfklheepkgedaaGreat
open Go.RowKit
set_option maxRecDepth 100000
def oneF : Nat → Int := fun i => if i / 24 = i % 24 then 1073741824 else 0
def oneS (k : Nat) : Nat → Int := fun i => if i / 24 = i % 24 ∧ i / 24 < k then 1073741824 else 0
theorem zmat : Tryz.zeroCells96 = arrv 576 (fun _ => 0) := by kernel_rfl
theorem imat : (Tryz.prog.info? 96).map (·.size) = some 576 := by kernel_rfl
structure OneR (w : World) (g : Nat → Int) (wr : World) : Prop where
 below : Below w.heap.size w wr
 res : Blk wr w.heap.size 96 576 (fun _ => 0)
 blk : Blk wr (w.heap.size + 1) 96 576 g
theorem one_any (w : World) :
  Calls Tryz.prog 52 #[] w fun e w' => e = .returned (.agg (arrv 576 oneF)) ∧ Below w.heap.size w w' := by
 go_enter Tryz.func52, Tryz.ntmps52
 go_wp2_with fail
 go_loopw [3] (fun i wr => ∃ k : Nat, k ≤ 24 ∧ i = .int .i64 k ∧ Hid (OneR w (oneS k) wr)) (fun i _ => 24 - (intOf i).toNat)
 case atStart =>
  refine ⟨0, by omega, rfl, ⟨by (repeat (first | with_reducible exact Below.refl _ _ | with_reducible apply Below.drew | (with_reducible refine below_drewN ?_ _) | (with_reducible refine Below.alloc ?_ (by (try simp) <;> omega) _) | (with_reducible refine Below.setCell ?_ (by (try simp) <;> omega) _))), ?_, ?_⟩⟩
  ·rw [zmat]; exact (Blk.new w _ _ _).alloc _
  ·rw [zmat]; exact (Blk.new1 w _ _ _ _).congr fun i hi => by simp [oneS]
 case round =>
  obtain ⟨k, hk, rfl, R⟩ := hrel
  by_cases hlt : k < 24
  ·have b0 := R.out.blk.cell (i := k * 24 + k) (by omega)
   have b1 := R.out.blk.free (k * 24 + k)
   go_wp2_with fail
   go_roundw
   case rel =>
    refine ⟨k + 1, by omega, by go_num, ⟨R.out.below.setCell (by simp) _, R.out.res.other (by simp) _, ?_⟩⟩
    refine (R.out.blk.set _ _).congr fun i hi => ?_
    simp only [Go.Proofs.YtgfklheepkgedaaGreat.upd, oneS]
    by_cases h1 : i = k * 24 + k
    ·subst h1; rw [if_pos rfl, if_pos (by omega)]
    ·rw [if_neg h1]; split <;> split <;> first | rfl | omega
   case measure => simp [intOf]; omega
  ·have hk24 : k = 24 := by omega
   subst hk24
   have B0 := R.out.res
   have B1 := R.out.blk
   have HB := Lib.hid R.out.below
   clear R hlt hk
   rw [show ((24 : Nat) : Int) = 24 from rfl]
   go_wp2_with (first | (refine wpList_load_row rfl 96 _ rfl (w.heap.size + 1) rfl 96 _ (0, 0) _ B1 Tryz.underlying96 rfl (imat.trans (by rw [arrv_size])) ?_) | (refine wpList_store_row rfl 96 _ _ rfl w.heap.size _ rfl rfl 96 _ B0 (imat.trans (by rw [arrv_size])) (by rw [arrv_size, arrv_size]) (oneCell_arrv _ _) ?_))
   refine bodyPost_ret (results_cell_row Tryz.results52 _ _ w.heap.size 96 (arrv 576 (oneS 24)) (0, 0) _ rfl (setRow_heap _ _ _ _ _ _ B0) Tryz.underlying96 rfl (imat.trans (by rw [arrv_size]))) rfl ⟨?_, ?_⟩
   ·rw [arrv_congr (g := oneF) fun i hi => by simp only [oneS, oneF]; split <;> split <;> first | rfl | omega]
   ·exact below_row HB.out (Nat.le_refl _) _

/-- Column k of U; row i of a matrix. -/
def colF (f : Nat → Int) (k : Nat) : Nat → Int := fun m => if m ≤ k then uV f m k else 0
def rwV (f F : Nat → Int) (i k : Nat) : Int := dotV 30 (rowF 24 F i) (colF f k) 24
def rwB (f F : Nat → Int) (i k : Nat) : Bool := dotH 30 (rowF 24 F i) (colF f k) 24
def rwS (f F : Nat → Int) (k i : Nat) : Nat → Int := fun j => if j % 48 < k ∨ (j % 48 = k ∧ j / 48 < i) then rwV f F (j / 48) (j % 48) else 0
def rwE (f F : Nat → Int) (i : Nat) : Nat → Int := fun j => if j % 48 = 24 + j / 48 ∧ j / 48 < i then 1073741824 else rwS f F 24 0 j
def rowsW (f F : Nat → Int) : Nat → Int := fun j => if j % 48 < 24 then rwV f F (j / 48) (j % 48) else if j % 48 = 24 + j / 48 then 1073741824 else 0
def rwH (f F : Nat → Int) (k : Nat) : Bool := orB (fun k => orB (fun i => rwB f F i k) 24) k
def rowsH (f F : Nat → Int) : Bool := rwH f F 24
structure RowsR (c : Addr) (h : Bool) (f W : Nat → Int) (w wr : World) : Prop where
 upd : Upd c h w wr
 pb : Blk wr w.heap.size 26 300 f
 wb : Blk wr (w.heap.size + 1) 146 1152 W
theorem zrows : Tryz.zeroCells146 = arrv 1152 (fun _ => 0) := by kernel_rfl
theorem zcol : (#[.int .i64 0, .int .i64 0, .int .i64 0, .int .i64 0, .int .i64 0, .int .i64 0, .int .i64 0, .int .i64 0, .int .i64 0, .int .i64 0, .int .i64 0, .int .i64 0, .int .i64 0, .int .i64 0, .int .i64 0, .int .i64 0, .int .i64 0, .int .i64 0, .int .i64 0, .int .i64 0, .int .i64 0, .int .i64 0, .int .i64 0, .int .i64 0] : Array Value) = arrv 24 (fun _ => 0) := by kernel_rfl
end Go.Proofs.YtgfklheepkgedaaGreat
/- bierman's numbers: what an update reckons with, and what it makes. No program. -/
namespace Go.Proofs.YtgfklheepkgedaaGreat
end Go.Proofs.YtgfklheepkgedaaGreat
