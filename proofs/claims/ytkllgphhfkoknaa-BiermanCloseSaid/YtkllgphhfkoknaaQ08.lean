/- Contracts of the program's functions and plain laws, part 8: they hold for all arguments. -/
import Derived.Test.YtkllgphhfkoknaaQ07
/- Contract of bierman.Innovation. -/
/- Contract of bierman.Update. -/
namespace Go.Proofs.Ytkllgphhfkoknaa
open Go.RowKit
set_option maxRecDepth 100000
theorem knN_S (p h : Nat → Int) (r : Int) : knN (condF p) (satS h 24) (varV r) 24 372 = updS p h r := by
  unfold knN; rw [if_neg (by omega), if_neg (by omega), if_neg (by omega), if_pos (by omega)]; rfl
set_option maxHeartbeats 1000000 in
theorem innov_any (c : Addr) (h : Bool) (p H : Nat → Int) (r : Int) (w : World) (hc : w.cell? c = some (.bool h)) (hf : w.frozen? c = false) :
    Calls Try.prog 13 #[.pointer (some c), .agg (arrv 300 p), .agg (arrv 24 H), .int .i64 r] w fun e w' =>
      e = .returned (.int .i64 (updS p H r)) ∧ Upd c (h || lkH p H r) w w' := by
  have hcb := World.block_lt_of_cell? w c hc
  have HC := Lib.hid hc
  have HF := Lib.hid hf
  clear hc hf
  go_enter Try.func13, Try.ntmps13
  have P0 : Blk ((w.alloc (.cells (arrv 300 p) 25)).alloc (.cells (arrv 24 H) 26)) w.heap.size 25 300 p := (Blk.new w _ _ _).alloc _
  have R0 : Blk ((w.alloc (.cells (arrv 300 p) 25)).alloc (.cells (arrv 24 H) 26)) (w.heap.size + 1) 26 24 H := Blk.new1 w _ _ _ _
  have U0 : Upd c h w ((w.alloc (.cells (arrv 300 p) 25)).alloc (.cells (arrv 24 H) 26)) := Upd.then (Upd.refl HC.out) (by (repeat (first | with_reducible exact Below.refl _ _ | with_reducible apply Below.drew | (with_reducible refine below_drewN ?_ _) | (with_reducible refine Below.alloc ?_ (by (try simp) <;> omega) _) | (with_reducible refine Below.setCell ?_ (by (try simp) <;> omega) _))))
  have LC := Lib.hid (look_any c h p H r _ (U0.cellc HC.out) ((U0.frozen hcb).trans HF.out))
  go_wp2_with (first | (refine wpList_load_row rfl 25 _ rfl w.heap.size rfl 25 _ (0, 0) _ P0 Try.underlying25 rfl (icov.trans (by rw [arrv_size])) ?_) | (refine wpList_load_row rfl 26 _ rfl (w.heap.size + 1) rfl 26 _ (0, 0) _ R0 Try.underlying26 rfl (irow.trans (by rw [arrv_size])) ?_) | (go_at_call 15; (refine LC.out.mono ?_); rintro e w1 ⟨b, rfl, hb, hu1, hB⟩; have s0 := hB.cell (i := 372) (by omega); (rw [knN_S] at s0); have UH := Lib.hid (U0.trans hu1); clear hu1 hB))
  go_ret
  exact ⟨rfl, UH.out⟩
end Go.Proofs.Ytkllgphhfkoknaa
namespace Go.Proofs.Ytkllgphhfkoknaa
open Go.RowKit
set_option maxRecDepth 100000
open Go in
/-- The results of a function that gives two rows and a number. -/
theorem results_rows2 {P : Program} {fn : Func} {p q u : Tmp} {ty ty' : TypeId} (h : fn.results = #[.cell p ty, .cell q ty', .tmp u]) (tmps : Array Value) (w : World) (g g' : Nat) (t t' : TypeId) (cs cs' : Array Value) (fr fr' : Nat × Nat) (d d' : TypeDesc)
    (hp : tmps.getD p undef = .pointer (some ⟨g, 0, none⟩)) (hg : w.heap[g]? = some (.cells cs t fr))
    (hu : P.underlying ty = some d) (hd : (match d with | .struct _ | .array _ _ => true | _ => false) = true) (hi : (P.info? ty).map (·.size) = some cs.size)
    (hp' : tmps.getD q undef = .pointer (some ⟨g', 0, none⟩)) (hg' : w.heap[g']? = some (.cells cs' t' fr'))
    (hu' : P.underlying ty' = some d') (hd' : (match d' with | .struct _ | .array _ _ => true | _ => false) = true) (hi' : (P.info? ty').map (·.size) = some cs'.size)
    (v : Value) (hv : tmps.getD u undef = v) :
    (results fn tmps).run P w = .ok (.tuple #[.agg cs, .agg cs', v]) w := by
  have e1 : tmps[p]?.getD undef = .pointer (some ⟨g, 0, none⟩) := by simpa using hp
  have e2 : tmps[q]?.getD undef = .pointer (some ⟨g', 0, none⟩) := by simpa using hp'
  have e3 : tmps[u]?.getD undef = v := by simpa using hv
  simp [results, h, e1, e2, e3, asAddr, run_loadVar_row w g t ty cs fr d hg hu hd hi, run_loadVar_row w g' t' ty' cs' fr' d' hg' hu' hd' hi']
theorem knN_at {P H N : Nat → Int} {R : Int} (h : knN P H R 24 = N) {j : Nat} (hj : j < 24) :
    N (276 + j) = P (276 + j) ∧ N (300 + j) = bkF P H j ∧ N (324 + j) = bkV P H j ∧ N (348 + j) = bkA P H R j ∧ N (348 + (j + 1)) = bkA P H R (j + 1) := by
  subst h
  refine ⟨?_, ?_, ?_, ?_, ?_⟩
  · unfold knN; rw [if_pos (by omega)]
  · unfold knN; rw [if_neg (by omega), if_pos (by omega), if_pos (by omega), show 300 + j - 300 = j by omega]
  · unfold knN; rw [if_neg (by omega), if_neg (by omega), if_pos (by omega), if_pos (by omega), show 324 + j - 324 = j by omega]
  · unfold knN; rw [if_neg (by omega), if_neg (by omega), if_neg (by omega), if_pos (by omega), show 348 + j - 348 = j by omega]
  · unfold knN; rw [if_neg (by omega), if_neg (by omega), if_neg (by omega), if_pos (by omega), show 348 + (j + 1) - 348 = j + 1 by omega]
/-- What holds in Update. -/
structure UpR (c : Addr) (h : Bool) (b bo bb : Nat) (N O B : Nat → Int) (w wr : World) : Prop where
  upd : Upd c h w wr
  r0 : Blk wr (w.heap.size + 1 + 1) 25 300 (fun _ => 0)
  r1 : Blk wr (w.heap.size + 1 + 1 + 1) 26 24 (fun _ => 0)
  nB : Blk wr b 48 373 N
  oB : Blk wr bo 25 300 O
  bB : Blk wr bb 26 24 B
theorem UpR.upd' {c : Addr} {h h' : Bool} {b bo bb : Nat} {N O B : Nat → Int} {w wr w' : World} (s : UpR c h b bo bb N O B w wr) (hc : c.block < w.heap.size) (h1 : w.heap.size + 3 < b) (h2 : b < bo) (h3 : bo < bb) (u : Upd c h' wr w') : UpR c h' b bo bb N O B w w' :=
  ⟨s.upd.trans u, s.r0.upd u (by omega), s.r1.upd u (by omega), s.nB.upd u (by omega), s.oB.upd u (by omega), s.bB.upd u (by omega)⟩
theorem UpR.down {c : Addr} {h : Bool} {b bo bb : Nat} {N O B : Nat → Int} {w wr w' : World} (s : UpR c h b bo bb N O B w wr) (h1 : w.heap.size + 3 < b) (h2 : b < bo) (h3 : bo < bb) (u : Below (bb + 1) wr w') : UpR c h b bo bb N O B w w' :=
  ⟨s.upd.then' (u.mono (by omega)), (u.block _ (by omega)).trans s.r0, (u.block _ (by omega)).trans s.r1, (u.block _ (by omega)).trans s.nB, (u.block _ (by omega)).trans s.oB, (u.block _ (by omega)).trans s.bB⟩
theorem UpR.setO {c : Addr} {h : Bool} {b bo bb : Nat} {N O B : Nat → Int} {w wr : World} (s : UpR c h b bo bb N O B w wr) (h1 : w.heap.size + 3 < b) (h2 : b < bo) (h3 : bo < bb) (j : Nat) (v : Int) : UpR c h b bo bb N (Go.Proofs.Ytkllgphhfkoknaa.upd O j v) B w (wr.setCell ⟨bo, j, none⟩ (.int .i64 v)) :=
  ⟨s.upd.setCell (by simp; omega) _, s.r0.other (by simp; omega) _, s.r1.other (by simp; omega) _, s.nB.other (by simp; omega) _, s.oB.set _ _, s.bB.other (by simp; omega) _⟩
theorem UpR.setB {c : Addr} {h : Bool} {b bo bb : Nat} {N O B : Nat → Int} {w wr : World} (s : UpR c h b bo bb N O B w wr) (h1 : w.heap.size + 3 < b) (h2 : b < bo) (h3 : bo < bb) (j : Nat) (v : Int) : UpR c h b bo bb N O (Go.Proofs.Ytkllgphhfkoknaa.upd B j v) w (wr.setCell ⟨bb, j, none⟩ (.int .i64 v)) :=
  ⟨s.upd.setCell (by simp; omega) _, s.r0.other (by simp; omega) _, s.r1.other (by simp; omega) _, s.nB.other (by simp; omega) _, s.oB.other (by simp; omega) _, s.bB.set _ _⟩
theorem UpR.rowO {c : Addr} {h : Bool} {b bo bb : Nat} {N O B : Nat → Int} {w wr : World} (s : UpR c h b bo bb N O B w wr) (h1 : w.heap.size + 3 < b) (h2 : b < bo) (h3 : bo < bb) (F : Nat → Int) : UpR c h b bo bb N F B w (wr.setRow bo (arrv 300 F)) :=
  ⟨s.upd.then' (below_row (Below.refl _ _) (by omega) _), s.r0.setRow_other _ (by omega), s.r1.setRow_other _ (by omega), s.nB.setRow_other _ (by omega), s.oB.setRow F, s.bB.setRow_other _ (by omega)⟩
theorem UpR.drew {c : Addr} {h : Bool} {b bo bb : Nat} {N O B : Nat → Int} {w wr : World} (s : UpR c h b bo bb N O B w wr) : UpR c h b bo bb N O B w wr.drew :=
  ⟨s.upd.drew, s.r0.drew, s.r1.drew, s.nB.drew, s.oB.drew, s.bB.drew⟩
theorem UpR.is {c : Addr} {h h' : Bool} {b bo bb : Nat} {N O B O' B' : Nat → Int} {w wr : World} (s : UpR c h b bo bb N O B w wr) (e : h = h') (eO : ∀ i, i < 300 → O i = O' i) (eB : ∀ i, i < 24 → B i = B' i) : UpR c h' b bo bb N O' B' w wr :=
  ⟨e ▸ s.upd, s.r0, s.r1, s.nB, s.oB.congr eO, s.bB.congr eB⟩
theorem upd_keep1 {N : Nat → Int} {D F V A A' : Int} {j b : Nat} {w : World} (e : N (276 + j) = D ∧ N (300 + j) = F ∧ N (324 + j) = V ∧ N (348 + j) = A ∧ N (348 + (j + 1)) = A') (hN : Blk w b 48 373 N) (hj : j < 24) :
    w.cell? ⟨b, 276 + j, none⟩ = some (.int .i64 D) ∧ w.cell? ⟨b, 348 + j, none⟩ = some (.int .i64 A) ∧ w.cell? ⟨b, 348 + (j + 1), none⟩ = some (.int .i64 A') := by
  refine ⟨?_, ?_, ?_⟩
  · rw [hN.cell (by omega), e.1]
  · rw [hN.cell (by omega), e.2.2.2.1]
  · rw [hN.cell (by omega), e.2.2.2.2]
theorem upd_keep2 {N : Nat → Int} {D F V A A' : Int} {j b : Nat} {w : World} (e : N (276 + j) = D ∧ N (300 + j) = F ∧ N (324 + j) = V ∧ N (348 + j) = A ∧ N (348 + (j + 1)) = A') (hN : Blk w b 48 373 N) (hj : j < 24) :
    w.cell? ⟨b, 300 + j, none⟩ = some (.int .i64 F) ∧ w.cell? ⟨b, 348 + j, none⟩ = some (.int .i64 A) := by
  refine ⟨?_, ?_⟩
  · rw [hN.cell (by omega), e.2.1]
  · rw [hN.cell (by omega), e.2.2.2.1]
theorem upd_keep3 {O B : Nat → Int} {V : Int} {bo bb m : Nat} {w : World} (e : B m = V) (hO : Blk w bo 25 300 O) (hB : Blk w bb 26 24 B) (hm : m < 24) :
    Blk w bo 25 300 O ∧ w.cell? ⟨bb, m, none⟩ = some (.int .i64 V) := ⟨hO, by rw [hB.cell hm, e]⟩
theorem upd_keep4 {N B : Nat → Int} {V D F VV A A' : Int} {b bb m j : Nat} {w : World} (e : B m = V) (e' : N (276 + j) = D ∧ N (300 + j) = F ∧ N (324 + j) = VV ∧ N (348 + j) = A ∧ N (348 + (j + 1)) = A') (hN : Blk w b 48 373 N) (hB : Blk w bb 26 24 B) (hm : m < 24) (hj : j < 24) :
    w.cell? ⟨bb, m, none⟩ = some (.int .i64 V) ∧ w.cell? ⟨b, 324 + j, none⟩ = some (.int .i64 VV) := ⟨by rw [hB.cell hm, e], by rw [hN.cell (by omega), e'.2.2.1]⟩
theorem upd_keep5 {N B : Nat → Int} {V S : Int} {b bb m : Nat} {w : World} (e : B m = V) (e' : N 372 = S) (hN : Blk w b 48 373 N) (hB : Blk w bb 26 24 B) (hm : m < 24) :
    w.cell? ⟨bb, m, none⟩ = some (.int .i64 V) ∧ w.cell? ⟨b, 372, none⟩ = some (.int .i64 S) := ⟨by rw [hB.cell hm, e], by rw [hN.cell (by omega), e']⟩
set_option maxHeartbeats 1000000 in
theorem update_any (c : Addr) (h : Bool) (p H : Nat → Int) (r : Int) (w : World) (hc : w.cell? c = some (.bool h)) (hf : w.frozen? c = false) :
    Calls Try.prog 5 #[.pointer (some c), .agg (arrv 300 p), .agg (arrv 24 H), .int .i64 r] w fun e w' =>
      e = .returned (.tuple #[.agg (arrv 300 (updP p H r)), .agg (arrv 24 (updG p H r)), .int .i64 (updS p H r)]) ∧ Upd c (h || updH p H r) w w' := by
  have hcb := World.block_lt_of_cell? w c hc
  have HC := Lib.hid hc
  have HF := Lib.hid hf
  clear hc hf
  go_enter Try.func5, Try.ntmps5
  obtain ⟨W0, hW0⟩ : ∃ x, ((((w.alloc (.cells (arrv 300 p) 25)).alloc (.cells (arrv 24 H) 26)).alloc (.cells Try.zeroCells25 25)).alloc (.cells #[.int .i64 0, .int .i64 0, .int .i64 0, .int .i64 0, .int .i64 0, .int .i64 0, .int .i64 0, .int .i64 0, .int .i64 0, .int .i64 0, .int .i64 0, .int .i64 0, .int .i64 0, .int .i64 0, .int .i64 0, .int .i64 0, .int .i64 0, .int .i64 0, .int .i64 0, .int .i64 0, .int .i64 0, .int .i64 0, .int .i64 0, .int .i64 0] 26)) = x := ⟨_, rfl⟩
  have P0 : Blk W0 w.heap.size 25 300 p := by rw [← hW0]; exact (((Blk.new w _ _ _).alloc _).alloc _).alloc _
  have R0 : Blk W0 (w.heap.size + 1) 26 24 H := by rw [← hW0]; exact ((Blk.new1 w _ _ _ _).alloc _).alloc _
  have Z0 : Blk W0 (w.heap.size + 1 + 1) 25 300 (fun _ => 0) := by rw [← hW0, zcov]; exact (blk_new2 w _ _ _ _ _).alloc _
  have Z1 : Blk W0 (w.heap.size + 1 + 1 + 1) 26 24 (fun _ => 0) := by rw [← hW0, zrow]; exact blk_new3 w _ _ _ _ _ _
  have U0 : Upd c h w W0 := by rw [← hW0]; exact Upd.then (Upd.refl HC.out) (by (repeat (first | with_reducible exact Below.refl _ _ | with_reducible apply Below.drew | (with_reducible refine below_drewN ?_ _) | (with_reducible refine Below.alloc ?_ (by (try simp) <;> omega) _) | (with_reducible refine Below.setCell ?_ (by (try simp) <;> omega) _))))
  have LC := Lib.hid (look_any c h p H r W0 (U0.cellc HC.out) ((U0.frozen hcb).trans HF.out))
  have hz0 := Z1.lt
  go_upto_region 1 with fail
  try rw [hW0]
  go_upto_region 2 with (first | (refine wpList_load_row rfl 25 _ rfl w.heap.size rfl 25 _ (0, 0) _ P0 Try.underlying25 rfl (icov.trans (by rw [arrv_size])) ?_) | (refine wpList_load_row rfl 26 _ rfl (w.heap.size + 1) rfl 26 _ (0, 0) _ R0 Try.underlying26 rfl (irow.trans (by rw [arrv_size])) ?_) | (go_at_call 15; (refine LC.out.mono ?_); rintro e w1 ⟨b, rfl, hb, hu1, hB⟩; have UH := Lib.hid (U0.trans hu1); have Z0' := Lib.hid (Z0.upd hu1 (by omega)); have Z1' := Lib.hid (Z1.upd hu1 (by omega)); clear hu1))
  obtain ⟨P, hP⟩ : ∃ x, condF p = x := ⟨_, rfl⟩
  obtain ⟨Hs, hHs⟩ : ∃ x, satS H 24 = x := ⟨_, rfl⟩
  obtain ⟨R, hR⟩ : ∃ x, varV r = x := ⟨_, rfl⟩
  obtain ⟨N, hN⟩ : ∃ x, knN P Hs R 24 = x := ⟨_, rfl⟩
  obtain ⟨LH, hLH⟩ : ∃ x, (h || lkH p H r) = x := ⟨_, rfl⟩
  obtain ⟨UV, hUV⟩ : ∃ x, (.returned (.tuple #[.agg (arrv 300 (updP p H r)), .agg (arrv 24 (updG p H r)), .int .i64 (updS p H r)]) : Ending) = x := ⟨_, rfl⟩
  obtain ⟨UF, hUF⟩ : ∃ x, (h || updH p H r) = x := ⟨_, rfl⟩
  have hUV' : (.returned (.tuple #[.agg (arrv 300 (upO P Hs R 24)), .agg (arrv 24 (upG P Hs R)), .int .i64 (N 372)]) : Ending) = UV := by rw [← hUV, ← hN, ← hP, ← hHs, ← hR, knN_S]; rfl
  have hUF' : (LH || orB (upCH P Hs R) 24 || orB (upGH P Hs R) 24) = UF := by rw [← hUF, ← hLH, ← hP, ← hHs, ← hR]; simp [updH, Bool.or_assoc]
  rw [hP, hHs, hR, hN] at hB
  rw [hLH] at UH
  rw [← hUV] at hUV'
  rw [← hUF] at hUF'
  have HUV := Lib.hid hUV'
  have HUF := Lib.hid hUF'
  have HN := Lib.hid hN
  have hbw : w.heap.size + 3 < b := by omega
  have hbl := hB.lt
  clear hUV hUF hUV' hUF' hN hP hHs hR hLH LC P0 R0 Z0 Z1 U0 hz0
  have eP : arrv 300 (fun i => N (0 + i)) = arrv 300 P := arrv_congr fun i hi => by
    rw [← HN.out]; simp only [knN]; rw [if_pos (by omega), Nat.zero_add]
  obtain ⟨bo, hbo⟩ : ∃ x, w1.heap.size = x := ⟨_, rfl⟩
  have Q0 : Blk (w1.alloc (.cells Try.zeroCells25 25)) bo 25 300 (fun _ => 0) := by rw [zcov, ← hbo]; exact Blk.new w1 _ _ _
  go_upto_region 3 with (first | (refine wpList_load_sub rfl 25 (.tmp 27) rfl b 0 300 rfl hB (by omega) _ Try.underlying25 rfl icov ?_; rw [eP]) | (refine wpList_store_row rfl 25 _ _ rfl bo _ (by rw [← hbo]; rfl) rfl 25 _ Q0 (icov.trans (by rw [arrv_size])) (by rw [arrv_size, arrv_size]) (oneCell_arrv _ _) ?_))
  have S2 : Blk ((w1.alloc (.cells Try.zeroCells25 25)).setRow bo (arrv 300 P)) bo 25 300 P := Q0.setRow P
  have S3 : Below w1.heap.size w1 ((w1.alloc (.cells Try.zeroCells25 25)).setRow bo (arrv 300 P)) := below_row ((Below.refl _ _).alloc (Nat.le_refl _) _) (by omega) _
  have hs2 : ((w1.alloc (.cells Try.zeroCells25 25)).setRow bo (arrv 300 P)).heap.size = bo + 1 := by simp [hbo]
  obtain ⟨W2, hW2⟩ : ∃ x, ((w1.alloc (.cells Try.zeroCells25 25)).setRow bo (arrv 300 P)) = x := ⟨_, rfl⟩
  rw [hW2] at S2 S3 hs2 ⊢
  have HQ : UpR c LH b bo (bo + 1) N P (fun _ => 0) w (W2.alloc (.cells #[.int .i64 0, .int .i64 0, .int .i64 0, .int .i64 0, .int .i64 0, .int .i64 0, .int .i64 0, .int .i64 0, .int .i64 0, .int .i64 0, .int .i64 0, .int .i64 0, .int .i64 0, .int .i64 0, .int .i64 0, .int .i64 0, .int .i64 0, .int .i64 0, .int .i64 0, .int .i64 0, .int .i64 0, .int .i64 0, .int .i64 0, .int .i64 0] 26)) :=
    ⟨((UH.out.then S3).alloc _), (Z0'.out.below S3).alloc _, (Z1'.out.below S3).alloc _, (hB.below S3).alloc _, S2.alloc _, by rw [zrow, ← hs2]; exact Blk.new W2 _ _ _⟩
  have HQ := Lib.hid HQ
  clear hW2 S2 S3 UH Z0' Z1' hB Q0
  go_upto_region 4 with fail
  obtain ⟨bb, hbb⟩ : ∃ x, bo + 1 = x := ⟨_, rfl⟩
  try rw [hs2]
  rw [hbb]
  rw [hbb] at HQ
  have hb2 : b < bo := by omega
  have hb3 : bo < bb := by omega
  generalize W2.alloc (.cells #[.int .i64 0, .int .i64 0, .int .i64 0, .int .i64 0, .int .i64 0, .int .i64 0, .int .i64 0, .int .i64 0, .int .i64 0, .int .i64 0, .int .i64 0, .int .i64 0, .int .i64 0, .int .i64 0, .int .i64 0, .int .i64 0, .int .i64 0, .int .i64 0, .int .i64 0, .int .i64 0, .int .i64 0, .int .i64 0, .int .i64 0, .int .i64 0] 26) = W3 at *
  clear hs2 hbb hbl hbo hb
  go_wp2_with fail
  go_loopw [29] (fun i wr => ∃ j : Nat, j ≤ 24 ∧ i = .int .i64 j ∧ Hid (UpR c (LH || orB (upCH P Hs R) j) b bo bb N (upO P Hs R j) (upB P Hs j) w wr)) (fun i _ => 24 - (intOf i).toNat)
  case atStart =>
    refine ⟨0, by omega, rfl, ?_⟩
    rw [show (LH || orB (upCH P Hs R) 0) = LH from by simp [orB]]
    exact HQ.out
  case round =>
    obtain ⟨j, hj, rfl, R1⟩ := hrel
    by_cases hlt : j < 24
    · have d1 : decide ((j : Int) < 24) = true := by simp; omega
      obtain ⟨HJ, hHJ⟩ : ∃ x, (LH || orB (upCH P Hs R) j) = x := ⟨_, rfl⟩
      obtain ⟨FO, hFO⟩ : ∃ x, upO P Hs R j = x := ⟨_, rfl⟩
      obtain ⟨FB, hFB⟩ : ∃ x, upB P Hs j = x := ⟨_, rfl⟩
      obtain ⟨DV, hDV⟩ : ∃ x, P (276 + j) = x := ⟨_, rfl⟩
      obtain ⟨FV, hFV⟩ : ∃ x, bkF P Hs j = x := ⟨_, rfl⟩
      obtain ⟨VV, hVV⟩ : ∃ x, bkV P Hs j = x := ⟨_, rfl⟩
      obtain ⟨A0, hA0⟩ : ∃ x, bkA P Hs R j = x := ⟨_, rfl⟩
      obtain ⟨A1, hA1⟩ : ∃ x, bkA P Hs R (j + 1) = x := ⟨_, rfl⟩
      obtain ⟨MV, hMV⟩ : ∃ x, mdivV DV A0 A1 = x := ⟨_, rfl⟩
      obtain ⟨MH, hMH⟩ : ∃ x, mdivH DV A0 A1 = x := ⟨_, rfl⟩
      obtain ⟨XV, hXV⟩ : ∃ x, divV FV A0 44 = x := ⟨_, rfl⟩
      obtain ⟨XH, hXH⟩ : ∃ x, divH FV A0 44 = x := ⟨_, rfl⟩
      have hXb : -1152921504606846976 ≤ XV ∧ XV ≤ 1152921504606846976 := by rw [← hXV]; exact divV_bd _ _ _
      obtain ⟨eD, eF, eV, eA, eA1⟩ := knN_at HN.out hlt
      rw [hDV] at eD
      rw [hFV] at eF
      rw [hVV] at eV
      rw [hA0] at eA
      rw [hA1] at eA1
      rw [hHJ, hFO, hFB] at R1
      have L1 := R1.out
      have m0 := L1.nB.cell (i := 276 + j) (by omega)
      have m1 := L1.nB.cell (i := 348 + j) (by omega)
      have m2 := L1.nB.cell (i := 348 + (j + 1)) (by omega)
      rw [eD] at m0
      rw [eA] at m1
      rw [eA1] at m2
      have MC := Lib.hid (mdiv_any c HJ DV A0 A1 wr.drew (by exact L1.upd.cellc HC.out) (by exact (L1.upd.frozen hcb).trans HF.out))
      rw [hMV, hMH] at MC
      have EN := Lib.hid (And.intro eD (And.intro eF (And.intro eV (And.intro eA eA1))))
      have EV := Lib.hid (And.intro hDV (And.intro hFV (And.intro hVV (And.intro hA0 (And.intro hA1 (And.intro hMV (And.intro hMH (And.intro hXV hXH))))))))
      have EJ := Lib.hid (And.intro hHJ (And.intro hFO hFB))
      have kj := Lib.hid (show IntKind.i64.wrap ((j : Int) + 1) = ((j + 1 : Nat) : Int) from by rw [IntWalk.i64_in _ (by omega)]; simp)
      have HX := Lib.hid hXb
      clear eD eF eV eA eA1 hDV hFV hVV hA0 hA1 hMV hMH hXV hXH hHJ hFO hFB hXb L1
      go_upto_region 7 with fail
      refine wp_region_M (fun w' => w'.cell? ⟨b, 276 + j, none⟩ = some (.int .i64 DV) ∧ w'.cell? ⟨b, 348 + j, none⟩ = some (.int .i64 A0) ∧ w'.cell? ⟨b, 348 + (j + 1), none⟩ = some (.int .i64 A1)) 27 (by kernel_rfl) ?_ (fun hHeld => ?_)
      · exact ⟨m0, m1, m2⟩
      refine wpAnyM_take 0 (v := ?_) rfl (by kernel_rfl) (fun _ _ _ h => h) (Or.inl ⟨by rfl, ?_⟩) (by assumption) ?_
      rotate_left
      · (intro wx hSw; (try dsimp only at hSw); go_simp; (try with_reducible rfl))
      (try simp only [Act.put, nA, nB, nC])
      refine wpAnyM_take 1 (v := ?_) rfl (by kernel_rfl) (fun _ _ _ h => h) (Or.inl ⟨by rfl, ?_⟩) (by assumption) ?_
      rotate_left
      · (intro wx hSw; (try dsimp only at hSw); go_simp; (try with_reducible rfl))
      (try simp only [Act.put, nA, nB, nC])
      refine wpAnyM_take 2 (v := ?_) rfl (by kernel_rfl) (fun _ _ _ h => h) (Or.inl ⟨by rfl, ?_⟩) (by assumption) ?_
      rotate_left
      · (intro wx hSw; (try dsimp only at hSw); go_simp; (try with_reducible rfl))
      (try simp only [Act.put, nA, nB, nC])
      refine wpAnyM_take 3 (v := ?_) rfl (by kernel_rfl) (fun _ _ _ h => h) (Or.inl ⟨by rfl, ?_⟩) (by assumption) ?_
      rotate_left
      · (intro wx hSw; (try dsimp only at hSw); go_simp; (try with_reducible rfl))
      (try simp only [Act.put, nA, nB, nC])
      refine wpAnyM_take 4 (v := ?_) rfl (by kernel_rfl) (fun _ _ _ h => h) (Or.inl ⟨by rfl, ?_⟩) (by assumption) ?_
      rotate_left
      · (intro wx hSw; (try dsimp only at hSw); go_simp; (try with_reducible rfl))
      (try simp only [Act.put, nA, nB, nC])
      refine wpAnyM_take 5 (v := ?_) rfl (by kernel_rfl) (fun _ _ _ h => h) (Or.inl ⟨by rfl, ?_⟩) (by assumption) ?_
      rotate_left
      · (intro wx hSw; (try dsimp only at hSw); go_simp; (try with_reducible rfl))
      (try simp only [Act.put, nA, nB, nC])
      refine wpAnyM_take 6 (v := ?_) rfl (by kernel_rfl) (fun _ _ _ h => h) (Or.inl ⟨by rfl, ?_⟩) (by assumption) ?_
      rotate_left
      · (intro wx hSw; (try dsimp only at hSw); go_simp; (try with_reducible rfl))
      (try simp only [Act.put, nA, nB, nC])
      refine wpAnyM_take 7 (v := ?_) rfl (by kernel_rfl) (fun _ _ _ h => h) (Or.inl ⟨by rfl, ?_⟩) (by assumption) ?_
      rotate_left
      · (intro wx hSw; (try dsimp only at hSw); go_simp; (try with_reducible rfl))
      (try simp only [Act.put, nA, nB, nC])
      refine wpAnyM_take 8 (v := ?_) rfl (by kernel_rfl) (fun _ _ _ h => h) (Or.inl ⟨by rfl, ?_⟩) (by assumption) ?_
      rotate_left
      · (intro wx hSw; (try dsimp only at hSw); go_simp; (first | rw [if_pos (by omega)] | rw [if_pos ⟨by omega, by omega⟩] | skip); (try with_reducible rfl))
      (try simp only [Act.put, nA, nB, nC])
      refine wpAnyM_take 9 (v := ?_) rfl (by kernel_rfl) (fun _ _ _ h => h) (Or.inl ⟨by rfl, ?_⟩) (by assumption) ?_
      rotate_left
      · (intro wx hSw; (try dsimp only at hSw); go_simp; (try with_reducible rfl))
      (try simp only [Act.put, nA, nB, nC])
      refine wpAnyM_take 10 (v := ?_) rfl (by kernel_rfl) (fun _ _ _ h => h) (Or.inl ⟨by rfl, ?_⟩) (by assumption) ?_
      rotate_left
      · (intro wx hSw; (try dsimp only at hSw); go_simp; (try with_reducible rfl))
      (try simp only [Act.put, nA, nB, nC])
      refine wpAnyM_take 11 (v := ?_) rfl (by kernel_rfl) (fun _ _ _ h => h) (Or.inl ⟨by rfl, ?_⟩) (by assumption) ?_
      rotate_left
      · (intro wx hSw; (try dsimp only at hSw); go_simp; (try with_reducible rfl))
      (try simp only [Act.put, nA, nB, nC])
      refine wpAnyM_take 12 (v := ?_) rfl (by kernel_rfl) (fun _ _ _ h => h) (Or.inl ⟨by rfl, ?_⟩) (by assumption) ?_
      rotate_left
      · (intro wx hSw; (try dsimp only at hSw); go_simp; (try with_reducible rfl))
      (try simp only [Act.put, nA, nB, nC])
      refine wpAnyM_take 13 (v := ?_) rfl (by kernel_rfl) (fun _ _ _ h => h) (Or.inl ⟨by rfl, ?_⟩) (by assumption) ?_
      rotate_left
      · (intro wx hSw; (try dsimp only at hSw); go_simp; (try with_reducible rfl))
      (try simp only [Act.put, nA, nB, nC])
      refine wpAnyM_take 14 (v := ?_) rfl (by kernel_rfl) (fun _ _ _ h => h) (Or.inl ⟨by rfl, ?_⟩) (by assumption) ?_
      rotate_left
      · (intro wx hSw; (try dsimp only at hSw); go_simp; (first | rw [if_pos (by omega)] | rw [if_pos ⟨by omega, by omega⟩] | skip); (try with_reducible rfl))
      (try simp only [Act.put, nA, nB, nC])
      refine wpAnyM_take 15 (v := ?_) rfl (by kernel_rfl) (fun _ _ _ h => h) (Or.inl ⟨by rfl, ?_⟩) (by assumption) ?_
      rotate_left
      · (intro wx hSw; (try dsimp only at hSw); go_simp; (try with_reducible rfl))
      (try simp only [Act.put, nA, nB, nC])
      refine wpAnyM_take 16 (v := ?_) rfl (by kernel_rfl) (fun _ _ _ h => h) (Or.inl ⟨by rfl, ?_⟩) (by assumption) ?_
      rotate_left
      · (intro wx hSw; (try dsimp only at hSw); go_simp; (try with_reducible rfl))
      (try simp only [Act.put, nA, nB, nC])
      refine wpAnyM_take 17 (v := ?_) rfl (by kernel_rfl) (fun _ _ _ h => h) (Or.inl ⟨by rfl, ?_⟩) (by assumption) ?_
      rotate_left
      · (intro wx hSw; (try dsimp only at hSw); go_simp; (try with_reducible rfl))
      (try simp only [Act.put, nA, nB, nC])
      refine wpAnyM_take 18 (v := ?_) rfl (by kernel_rfl) (fun _ _ _ h => h) (Or.inl ⟨by rfl, ?_⟩) (by assumption) ?_
      rotate_left
      · (intro wx hSw; (try dsimp only at hSw); go_simp; (try with_reducible rfl))
      (try simp only [Act.put, nA, nB, nC])
      refine wpAnyM_take 19 (v := ?_) rfl (by kernel_rfl) (fun _ _ _ h => h) (Or.inl ⟨by rfl, ?_⟩) (by assumption) ?_
      rotate_left
      · (intro wx hSw; (try dsimp only at hSw); go_simp; (try with_reducible rfl))
      (try simp only [Act.put, nA, nB, nC])
      refine wpAnyM_take 20 (v := ?_) rfl (by kernel_rfl) (fun _ _ _ h => h) (Or.inl ⟨by rfl, ?_⟩) (by assumption) ?_
      rotate_left
      · (intro wx hSw; (try dsimp only at hSw); go_simp; (try with_reducible rfl))
      (try simp only [Act.put, nA, nB, nC])
      refine wpAnyM_take 21 (v := ?_) rfl (by kernel_rfl) (fun _ _ _ h => h) (Or.inl ⟨by rfl, ?_⟩) (by assumption) ?_
      rotate_left
      · (intro wx hSw; (try dsimp only at hSw); go_simp; (try simp only [kj.out, Int.toNat_natCast]); rw [if_pos (show (0 : Int) ≤ ((j + 1 : Nat) : Int) ∧ ((j + 1 : Nat) : Int) < 25 from ⟨by omega, by omega⟩)]; (try with_reducible rfl))
      (try simp only [Act.put, nA, nB, nC])
      refine wpAnyM_take 22 (v := ?_) rfl (by kernel_rfl) (fun _ _ _ h => h) (Or.inl ⟨by rfl, ?_⟩) (by assumption) ?_
      rotate_left
      · (intro wx hSw; (try dsimp only at hSw); go_simp; (try with_reducible rfl))
      (try simp only [Act.put, nA, nB, nC])
      refine wpAnyM_takeW 25 (v := ?_) rfl (by kernel_rfl) (fun _ _ _ h => h) (Or.inl ⟨by rfl, ?_⟩) (.inr (by assumption)) ?_
      rotate_left
      · (intro wx hSw; (try dsimp only at hSw); go_simp; (try with_reducible rfl))
      (try simp only [Act.put, nA, nB, nC])
      refine wpAnyM_oneS 23 rfl (by kernel_rfl) (fun K hK => ?_)
      go_simp
      (refine MC.out.mono ?_); rintro e w5 ⟨rfl, hu5⟩; have L5 := Lib.hid (R1.out.upd' hcb hbw hb2 hb3 (Upd.after (Below.drew (Below.refl _ _)) hu5)); clear hu5 m0 m1 m2
      (try dsimp only)
      (try simp only [Act.put, nA, nB, nC])
      clear hHeld
      refine hK.out _ _ ?_ (fun hHeld => ?_)
      · exact upd_keep1 EN.out L5.out.nB hlt
      clear hK K
      (try simp only [Act.put, nA, nB, nC])
      refine wpAnyM_oneS 24 rfl (by kernel_rfl) (fun K hK => ?_)
      go_simp
      (refine (clamp_any c _ MV 1 72057594037927936 w5 (L5.out.upd.cellc HC.out) ((L5.out.upd.frozen hcb).trans HF.out)).mono ?_); rintro e w6 ⟨rfl, hw6⟩; have L6 := Lib.hid (L5.out.upd' hcb hbw hb2 hb3 ((Upd.set c (HJ || MH || varH MV) w5).then (by rw [show varH MV = clampH MV 1 72057594037927936 from rfl, hw6]; exact Below.refl _ _))); have n0 := L6.out.oB.cell (i := 276 + j) (by omega); have n1 := L6.out.oB.free (276 + j); clear hw6
      (try dsimp only)
      (try simp only [Act.put, nA, nB, nC])
      clear hHeld
      refine hK.out _ _ ?_ (fun hHeld => ?_)
      · exact upd_keep1 EN.out L6.out.nB hlt
      clear hK K
      (try simp only [Act.put, nA, nB, nC])
      refine wpAnyM_take 26 (v := ?_) rfl (by kernel_rfl) (fun _ _ _ h => h) (Or.inl ⟨by rfl, ?_⟩) (by assumption) ?_
      rotate_left
      · (intro wx hSw; (try dsimp only at hSw); go_simp; (first | rw [if_pos (by omega)] | rw [if_pos ⟨by omega, by omega⟩] | skip); (try with_reducible rfl))
      (try simp only [Act.put, nA, nB, nC])
      refine wpAnyM_one 27 rfl (by kernel_rfl) (fun K hK => ?_)
      go_simp
      refine hK.out _ _ (.inl (by kernel_rfl)) (fun _ => ?_)
      clear hK K
      (try simp only [Act.put, nA, nB, nC])
      refine wpAnyM_done (by kernel_rfl) ?_ _
      rw [show IntKind.i64.wrap ((j : Int) + 1) = (j : Int) + 1 from IntWalk.i64_in _ (by omega)]
      have L7 := Lib.hid (L6.out.setO hbw hb2 hb3 (276 + j) (clampV MV 1 72057594037927936))
      generalize w6.setCell ⟨bo, 276 + j, none⟩ (.int .i64 (clampV MV 1 72057594037927936)) = W7 at *
      have XC := Lib.hid (fdiv_any c _ FV A0 44 W7.drew (by exact L7.out.upd.cellc HC.out) (by exact (L7.out.upd.frozen hcb).trans HF.out))
      rw [EV.out.2.2.2.2.2.2.2.1, EV.out.2.2.2.2.2.2.2.2] at XC
      obtain ⟨FO1, hFO1⟩ : ∃ x, Go.Proofs.Ytkllgphhfkoknaa.upd FO (276 + j) (clampV MV 1 72057594037927936) = x := ⟨_, rfl⟩
      rw [hFO1] at L7
      have EO := Lib.hid hFO1
      clear n0 n1 L5 L6 MC R1 hFO1
      (try clear hHeld)
      go_upto_region 8 with fail
      refine wp_region_M (fun w' => w'.cell? ⟨b, 300 + j, none⟩ = some (.int .i64 FV) ∧ w'.cell? ⟨b, 348 + j, none⟩ = some (.int .i64 A0)) 15 (by kernel_rfl) ?_ (fun hHeld => ?_)
      · exact upd_keep2 EN.out L7.out.nB hlt
      refine wpAnyM_take 0 (v := ?_) rfl (by kernel_rfl) (fun _ _ _ h => h) (Or.inl ⟨by rfl, ?_⟩) (by assumption) ?_
      rotate_left
      · (intro wx hSw; (try dsimp only at hSw); go_simp; (try with_reducible rfl))
      (try simp only [Act.put, nA, nB, nC])
      refine wpAnyM_take 1 (v := ?_) rfl (by kernel_rfl) (fun _ _ _ h => h) (Or.inl ⟨by rfl, ?_⟩) (by assumption) ?_
      rotate_left
      · (intro wx hSw; (try dsimp only at hSw); go_simp; (try with_reducible rfl))
      (try simp only [Act.put, nA, nB, nC])
      refine wpAnyM_take 2 (v := ?_) rfl (by kernel_rfl) (fun _ _ _ h => h) (Or.inl ⟨by rfl, ?_⟩) (by assumption) ?_
      rotate_left
      · (intro wx hSw; (try dsimp only at hSw); go_simp; (try with_reducible rfl))
      (try simp only [Act.put, nA, nB, nC])
      refine wpAnyM_take 3 (v := ?_) rfl (by kernel_rfl) (fun _ _ _ h => h) (Or.inl ⟨by rfl, ?_⟩) (by assumption) ?_
      rotate_left
      · (intro wx hSw; (try dsimp only at hSw); go_simp; (try with_reducible rfl))
      (try simp only [Act.put, nA, nB, nC])
      refine wpAnyM_take 4 (v := ?_) rfl (by kernel_rfl) (fun _ _ _ h => h) (Or.inl ⟨by rfl, ?_⟩) (by assumption) ?_
      rotate_left
      · (intro wx hSw; (try dsimp only at hSw); go_simp; (try with_reducible rfl))
      (try simp only [Act.put, nA, nB, nC])
      refine wpAnyM_take 5 (v := ?_) rfl (by kernel_rfl) (fun _ _ _ h => h) (Or.inl ⟨by rfl, ?_⟩) (by assumption) ?_
      rotate_left
      · (intro wx hSw; (try dsimp only at hSw); go_simp; (first | rw [if_pos (by omega)] | rw [if_pos ⟨by omega, by omega⟩] | skip); (try with_reducible rfl))
      (try simp only [Act.put, nA, nB, nC])
      refine wpAnyM_take 6 (v := ?_) rfl (by kernel_rfl) (fun _ _ _ h => h) (Or.inl ⟨by rfl, ?_⟩) (by assumption) ?_
      rotate_left
      · (intro wx hSw; (try dsimp only at hSw); go_simp; (try with_reducible rfl))
      (try simp only [Act.put, nA, nB, nC])
      refine wpAnyM_take 7 (v := ?_) rfl (by kernel_rfl) (fun _ _ _ h => h) (Or.inl ⟨by rfl, ?_⟩) (by assumption) ?_
      rotate_left
      · (intro wx hSw; (try dsimp only at hSw); go_simp; (try with_reducible rfl))
      (try simp only [Act.put, nA, nB, nC])
      refine wpAnyM_take 8 (v := ?_) rfl (by kernel_rfl) (fun _ _ _ h => h) (Or.inl ⟨by rfl, ?_⟩) (by assumption) ?_
      rotate_left
      · (intro wx hSw; (try dsimp only at hSw); go_simp; (try with_reducible rfl))
      (try simp only [Act.put, nA, nB, nC])
      refine wpAnyM_take 9 (v := ?_) rfl (by kernel_rfl) (fun _ _ _ h => h) (Or.inl ⟨by rfl, ?_⟩) (by assumption) ?_
      rotate_left
      · (intro wx hSw; (try dsimp only at hSw); go_simp; (try with_reducible rfl))
      (try simp only [Act.put, nA, nB, nC])
      refine wpAnyM_take 10 (v := ?_) rfl (by kernel_rfl) (fun _ _ _ h => h) (Or.inl ⟨by rfl, ?_⟩) (by assumption) ?_
      rotate_left
      · (intro wx hSw; (try dsimp only at hSw); go_simp; (try with_reducible rfl))
      (try simp only [Act.put, nA, nB, nC])
      refine wpAnyM_take 11 (v := ?_) rfl (by kernel_rfl) (fun _ _ _ h => h) (Or.inl ⟨by rfl, ?_⟩) (by assumption) ?_
      rotate_left
      · (intro wx hSw; (try dsimp only at hSw); go_simp; (first | rw [if_pos (by omega)] | rw [if_pos ⟨by omega, by omega⟩] | skip); (try with_reducible rfl))
      (try simp only [Act.put, nA, nB, nC])
      refine wpAnyM_take 12 (v := ?_) rfl (by kernel_rfl) (fun _ _ _ h => h) (Or.inl ⟨by rfl, ?_⟩) (by assumption) ?_
      rotate_left
      · (intro wx hSw; (try dsimp only at hSw); go_simp; (try with_reducible rfl))
      (try simp only [Act.put, nA, nB, nC])
      refine wpAnyM_oneS 13 rfl (by kernel_rfl) (fun K hK => ?_)
      go_simp
      (refine XC.out.mono ?_); rintro e w8 ⟨rfl, hu8⟩; have L8 := Lib.hid (L7.out.upd' hcb hbw hb2 hb3 (Upd.after (Below.drew (Below.refl _ _)) hu8)); clear hu8
      (try dsimp only)
      (try simp only [Act.put, nA, nB, nC])
      clear hHeld
      refine hK.out _ _ ?_ (fun hHeld => ?_)
      · exact upd_keep2 EN.out L8.out.nB hlt
      clear hK K
      (try simp only [Act.put, nA, nB, nC])
      refine wpAnyM_take 14 (v := ?_) rfl (by kernel_rfl) (fun _ _ _ h => h) (Or.inl ⟨by rfl, ?_⟩) (by assumption) ?_
      rotate_left
      · (intro wx hSw; (try dsimp only at hSw); go_simp; (try with_reducible rfl))
      (try simp only [Act.put, nA, nB, nC])
      refine wpAnyM_one 15 rfl (by kernel_rfl) (fun K hK => ?_)
      go_simp
      refine hK.out _ _ (.inl (by kernel_rfl)) (fun _ => ?_)
      clear hK K
      (try simp only [Act.put, nA, nB, nC])
      refine wpAnyM_done (by kernel_rfl) ?_ _
      rw [show IntKind.i64.wrap (-XV) = -XV from IntWalk.i64_in _ (by have := HX.out; omega)]
      obtain ⟨YV, hYV⟩ : ∃ x, -XV = x := ⟨_, rfl⟩
      rw [hYV]
      have EY := Lib.hid hYV
      obtain ⟨HX1, hHX1⟩ : ∃ x, (HJ || MH || clampH MV 1 72057594037927936 || XH) = x := ⟨_, rfl⟩
      have L9 := L8.out
      rw [show varH MV = clampH MV 1 72057594037927936 from rfl, hHX1] at L9
      have m3 := L9.nB.cell (i := 324 + j) (by omega)
      rw [EN.out.2.2.1] at m3
      have n0 := L9.bB.cell (i := j) (by omega)
      have n1 := L9.bB.free j
      have HL9 := Lib.hid L9
      have EX := Lib.hid hHX1
      clear hHeld hYV L8 L7 XC L9 HX hHX1
      go_upto_region 10 with fail
      have L10 := Lib.hid (HL9.out.setB hbw hb2 hb3 j VV)
      generalize w8.setCell ⟨bb, j, none⟩ (.int .i64 VV) = W10 at *
      clear m3 n0 n1 HL9 HQ
      have L11 : Hid (UpR c (HX1 || orB (upRH P Hs R j) 0) b bo bb N (upOm FO P Hs R j 0) (upBm P Hs j 0) w W10) := by
        refine Lib.hid (L10.out.is (by simp [orB]) ?_ ?_)
        · intro i hi
          obtain ⟨v1, v2, v3, v4, v5, v6, v7, v8, v9⟩ := EV.out
          rw [← EO.out, ← v6, ← v1, ← v4, ← v5]; rfl
        · intro i hi
          rw [← EJ.out.2.2, ← EV.out.2.2.1]; simp only [Go.Proofs.Ytkllgphhfkoknaa.upd, upBm]
          by_cases h1 : i = j
          · rw [if_pos h1, if_pos h1]
          · rw [if_neg h1, if_neg h1, if_neg (by omega)]
      clear L10
      go_wp2_with fail
      go_loopw [83] (fun i wr => ∃ m : Nat, m ≤ j ∧ i = .int .i64 m ∧ Hid (UpR c (HX1 || orB (upRH P Hs R j) m) b bo bb N (upOm FO P Hs R j m) (upBm P Hs j m) w wr)) (fun i _ => j - (intOf i).toNat)
      case atStart => exact ⟨0, by omega, rfl, L11⟩
      case round =>
        obtain ⟨m, hm, rfl, R2⟩ := hrel
        by_cases hmj : m < j
        · have d2 : decide ((m : Int) < (j : Int)) = true := by simp; omega
          obtain ⟨HM, hHM⟩ : ∃ x, (HX1 || orB (upRH P Hs R j) m) = x := ⟨_, rfl⟩
          obtain ⟨OM, hOM⟩ : ∃ x, upOm FO P Hs R j m = x := ⟨_, rfl⟩
          obtain ⟨BM, hBM⟩ : ∃ x, upBm P Hs j m = x := ⟨_, rfl⟩
          obtain ⟨UM, hUM⟩ : ∃ x, uV P m j = x := ⟨_, rfl⟩
          obtain ⟨BV, hBV⟩ : ∃ x, upB P Hs j m = x := ⟨_, rfl⟩
          obtain ⟨PV, hPV⟩ : ∃ x, mulV BV YV 44 = x := ⟨_, rfl⟩
          obtain ⟨PH, hPH⟩ : ∃ x, mulH BV YV 44 = x := ⟨_, rfl⟩
          obtain ⟨QV, hQV⟩ : ∃ x, mulV UM VV 30 = x := ⟨_, rfl⟩
          obtain ⟨QH, hQH⟩ : ∃ x, mulH UM VV 30 = x := ⟨_, rfl⟩
          have eB : BM m = BV := by rw [← hBM, ← hBV]; unfold upBm; rw [if_neg (by omega), if_neg (by omega)]
          rw [hHM, hOM, hBM] at R2
          have NB := R2.out.nB
          have hbl := R2.out.bB.lt
          have UC := Lib.hid (u_any P m j wr (by omega) hlt)
          rw [hUM] at UC
          have EM := Lib.hid (And.intro hHM (And.intro hOM (And.intro hBM (And.intro hUM (And.intro hBV (And.intro hPV (And.intro hPH (And.intro hQV hQH))))))))
          have EB := Lib.hid eB
          clear hHM hOM hBM hUM hBV hPV hPH hQV hQH eB L11
          go_upto_region 14 with (first | (refine wpList_load_sub rfl 25 (.tmp 88) rfl b 0 300 rfl NB (by omega) _ Try.underlying25 rfl icov ?_; rw [eP]) | (go_at_call 17; (refine UC.out.mono ?_); rintro e w2 ⟨rfl, hu2⟩; have L2 := Lib.hid (R2.out.down hbw hb2 hb3 (hu2.mono (by omega))); clear hu2))
          have s0 := L2.out.oB
          have s1 := L2.out.bB.cell (i := m) (by omega)
          rw [EB.out] at s1
          have MC := Lib.hid (fmul_any c _ BV YV 44 w2.drew (by exact L2.out.upd.cellc HC.out) (by exact (L2.out.upd.frozen hcb).trans HF.out))
          rw [EM.out.2.2.2.2.2.1, EM.out.2.2.2.2.2.2.1] at MC
          clear UC NB R2 hbl
          refine wp_region_M (fun w' => Blk w' bo 25 300 OM ∧ w'.cell? ⟨bb, m, none⟩ = some (.int .i64 BV)) 14 (by kernel_rfl) ?_ (fun hHeld => ?_)
          · exact ⟨s0, s1⟩
          refine wpAnyM_take 0 (v := ?_) rfl (by kernel_rfl) (fun _ _ _ h => h) (Or.inl ⟨by rfl, ?_⟩) (by assumption) ?_
          rotate_left
          · (intro wx hSw; refine Eq.trans (run_load_row 25 (.tmp 12) (by rfl) (bo) (by rfl) _ _ _ _ (hSw.1) Try.underlying25 rfl (icov.trans (by rw [arrv_size]))) ?_; with_reducible rfl)
          (try simp only [Act.put, nA, nB, nC])
          refine wpAnyM_take 1 (v := ?_) rfl (by kernel_rfl) (fun _ _ _ h => h) (Or.inl ⟨by rfl, ?_⟩) (by assumption) ?_
          rotate_left
          · (intro wx hSw; (try dsimp only at hSw); go_simp; (try with_reducible rfl))
          (try simp only [Act.put, nA, nB, nC])
          refine wpAnyM_take 2 (v := ?_) rfl (by kernel_rfl) (fun _ _ _ h => h) (Or.inl ⟨by rfl, ?_⟩) (by assumption) ?_
          rotate_left
          · (intro wx hSw; (try dsimp only at hSw); go_simp; (try with_reducible rfl))
          (try simp only [Act.put, nA, nB, nC])
          refine wpAnyM_take 3 (v := ?_) rfl (by kernel_rfl) (fun _ _ _ h => h) (Or.inl ⟨by rfl, ?_⟩) (by assumption) ?_
          rotate_left
          · (intro wx hSw; (try dsimp only at hSw); go_simp; (try with_reducible rfl))
          (try simp only [Act.put, nA, nB, nC])
          refine wpAnyM_take 4 (v := ?_) rfl (by kernel_rfl) (fun _ _ _ h => h) (Or.inl ⟨by rfl, ?_⟩) (by assumption) ?_
          rotate_left
          · (intro wx hSw; (try dsimp only at hSw); go_simp; (try with_reducible rfl))
          (try simp only [Act.put, nA, nB, nC])
          refine wpAnyM_take 5 (v := ?_) rfl (by kernel_rfl) (fun _ _ _ h => h) (Or.inl ⟨by rfl, ?_⟩) (by assumption) ?_
          rotate_left
          · (intro wx hSw; (try dsimp only at hSw); go_simp; (try with_reducible rfl))
          (try simp only [Act.put, nA, nB, nC])
          refine wpAnyM_take 6 (v := ?_) rfl (by kernel_rfl) (fun _ _ _ h => h) (Or.inl ⟨by rfl, ?_⟩) (by assumption) ?_
          rotate_left
          · (intro wx hSw; (try dsimp only at hSw); go_simp; (try with_reducible rfl))
          (try simp only [Act.put, nA, nB, nC])
          refine wpAnyM_take 7 (v := ?_) rfl (by kernel_rfl) (fun _ _ _ h => h) (Or.inl ⟨by rfl, ?_⟩) (by assumption) ?_
          rotate_left
          · (intro wx hSw; (try dsimp only at hSw); go_simp; (first | rw [if_pos (by omega)] | rw [if_pos ⟨by omega, by omega⟩] | skip); (try with_reducible rfl))
          (try simp only [Act.put, nA, nB, nC])
          refine wpAnyM_take 8 (v := ?_) rfl (by kernel_rfl) (fun _ _ _ h => h) (Or.inl ⟨by rfl, ?_⟩) (by assumption) ?_
          rotate_left
          · (intro wx hSw; (try dsimp only at hSw); go_simp; (try with_reducible rfl))
          (try simp only [Act.put, nA, nB, nC])
          refine wpAnyM_take 9 (v := ?_) rfl (by kernel_rfl) (fun _ _ _ h => h) (Or.inl ⟨by rfl, ?_⟩) (by assumption) ?_
          rotate_left
          · (intro wx hSw; (try dsimp only at hSw); go_simp; (try with_reducible rfl))
          (try simp only [Act.put, nA, nB, nC])
          refine wpAnyM_oneS 10 rfl (by kernel_rfl) (fun K hK => ?_)
          go_simp
          (refine MC.out.mono ?_); rintro e w3 ⟨rfl, hu3⟩; have L3 := Lib.hid (L2.out.upd' hcb hbw hb2 hb3 (Upd.after (Below.drew (Below.refl _ _)) hu3)); have hz3 := L3.out.bB.lt; clear hu3 s0 s1
          (try dsimp only)
          (try simp only [Act.put, nA, nB, nC])
          clear hHeld
          refine hK.out _ _ ?_ (fun hHeld => ?_)
          · exact upd_keep3 EB.out L3.out.oB L3.out.bB (by omega)
          clear hK K
          (try simp only [Act.put, nA, nB, nC])
          refine wpAnyM_oneS 11 rfl (by kernel_rfl) (fun K hK => ?_)
          go_simp
          clear hHeld
          refine hK.out _ _ ?_ (fun hHeld => ?_)
          · exact upd_keep3 EB.out (L3.out.oB.alloc _) (L3.out.bB.alloc _) (by omega)
          clear hK K
          (try simp only [Act.put, nA, nB, nC])
          refine wpAnyM_oneS 12 rfl (by kernel_rfl) (fun K hK => ?_)
          go_simp
          have L3' := L3.out.down hbw hb2 hb3 ((Below.refl (bb + 1) w3).alloc (by omega) (.cells #[.int .i64 UM, .int .i64 PV] 2)); (refine (fadd_any c _ (two UM PV) w3.heap.size 0 2 2 _ (L3'.upd.cellc HC.out) ((L3'.upd.frozen hcb).trans HF.out) (by decide) (by intro i hi; obtain rfl | rfl : i = 0 ∨ i = 1 := (by omega); simp [go_sem, two]; simp [go_sem, two])).mono ?_); (rw [(add2 UM PV true).1, (add2 UM PV _).2]); rintro e w4 ⟨rfl, hu4⟩; have L4 := Lib.hid (L3'.upd' hcb hbw hb2 hb3 hu4); have hz4 := L4.out.bB.lt; clear hu4 L3'
          (try dsimp only)
          (try simp only [Act.put, nA, nB, nC])
          clear hHeld
          refine hK.out _ _ ?_ (fun hHeld => ?_)
          · exact upd_keep3 EB.out L4.out.oB L4.out.bB (by omega)
          clear hK K
          (try simp only [Act.put, nA, nB, nC])
          refine wpAnyM_oneS 13 rfl (by kernel_rfl) (fun K hK => ?_)
          go_simp
          (refine (set_any OM m j (addV UM PV) w4 hmj hlt).mono ?_); rintro e w5 ⟨rfl, hu5⟩; have L5 := Lib.hid (L4.out.down hbw hb2 hb3 (hu5.mono (by omega))); have s2 := L5.out.oB; clear hu5
          (try dsimp only)
          (try simp only [Act.put, nA, nB, nC])
          clear hHeld
          refine hK.out _ _ ?_ (fun hHeld => ?_)
          · exact upd_keep3 EB.out L5.out.oB L5.out.bB (by omega)
          clear hK K
          (try simp only [Act.put, nA, nB, nC])
          refine wpAnyM_one 14 rfl (by kernel_rfl) (fun K hK => ?_)
          go_simp; rw [if_pos (arrv_size _ _), run_storeCells_row _ s2]; go_simp
          refine hK.out _ _ (.inl (by kernel_rfl)) (fun _ => ?_)
          clear hK K
          (try simp only [Act.put, nA, nB, nC])
          refine wpAnyM_done (by kernel_rfl) ?_ _
          have L6 := Lib.hid (L5.out.rowO hbw hb2 hb3 (Go.Proofs.Ytkllgphhfkoknaa.upd OM (pl m j) (addV UM PV)))
          generalize w5.setRow bo (arrv 300 (Go.Proofs.Ytkllgphhfkoknaa.upd OM (pl m j) (addV UM PV))) = W6 at *
          obtain ⟨OM1, hOM1⟩ : ∃ x, Go.Proofs.Ytkllgphhfkoknaa.upd OM (pl m j) (addV UM PV) = x := ⟨_, rfl⟩
          rw [hOM1] at L6
          have EO1 := Lib.hid hOM1
          clear s2 L2 L3 L4 L5 hz3 hz4 MC hOM1
          (try clear hHeld)
          have MC := Lib.hid (fmul_any c _ UM VV 30 W6.drew (by exact L6.out.upd.cellc HC.out) (by exact (L6.out.upd.frozen hcb).trans HF.out))
          rw [EM.out.2.2.2.2.2.2.2.1, EM.out.2.2.2.2.2.2.2.2] at MC
          have HM2 := Lib.hid (upd_keep4 EB.out EN.out L6.out.nB L6.out.bB (by omega) hlt)
          go_upto_region 15 with fail
          refine wp_region_M (fun w' => w'.cell? ⟨bb, m, none⟩ = some (.int .i64 BV) ∧ w'.cell? ⟨b, 324 + j, none⟩ = some (.int .i64 VV)) 17 (by kernel_rfl) ?_ (fun hHeld => ?_)
          · exact HM2.out
          refine wpAnyM_take 0 (v := ?_) rfl (by kernel_rfl) (fun _ _ _ h => h) (Or.inl ⟨by rfl, ?_⟩) (by assumption) ?_
          rotate_left
          · (intro wx hSw; (try dsimp only at hSw); go_simp; (try with_reducible rfl))
          (try simp only [Act.put, nA, nB, nC])
          refine wpAnyM_take 1 (v := ?_) rfl (by kernel_rfl) (fun _ _ _ h => h) (Or.inl ⟨by rfl, ?_⟩) (by assumption) ?_
          rotate_left
          · (intro wx hSw; (try dsimp only at hSw); go_simp; (try with_reducible rfl))
          (try simp only [Act.put, nA, nB, nC])
          refine wpAnyM_take 2 (v := ?_) rfl (by kernel_rfl) (fun _ _ _ h => h) (Or.inl ⟨by rfl, ?_⟩) (by assumption) ?_
          rotate_left
          · (intro wx hSw; (try dsimp only at hSw); go_simp; (try with_reducible rfl))
          (try simp only [Act.put, nA, nB, nC])
          refine wpAnyM_take 3 (v := ?_) rfl (by kernel_rfl) (fun _ _ _ h => h) (Or.inl ⟨by rfl, ?_⟩) (by assumption) ?_
          rotate_left
          · (intro wx hSw; (try dsimp only at hSw); go_simp; (first | rw [if_pos (by omega)] | rw [if_pos ⟨by omega, by omega⟩] | skip); (try with_reducible rfl))
          (try simp only [Act.put, nA, nB, nC])
          refine wpAnyM_take 4 (v := ?_) rfl (by kernel_rfl) (fun _ _ _ h => h) (Or.inl ⟨by rfl, ?_⟩) (by assumption) ?_
          rotate_left
          · (intro wx hSw; (try dsimp only at hSw); go_simp; (try with_reducible rfl))
          (try simp only [Act.put, nA, nB, nC])
          refine wpAnyM_take 5 (v := ?_) rfl (by kernel_rfl) (fun _ _ _ h => h) (Or.inl ⟨by rfl, ?_⟩) (by assumption) ?_
          rotate_left
          · (intro wx hSw; (try dsimp only at hSw); go_simp; (try with_reducible rfl))
          (try simp only [Act.put, nA, nB, nC])
          refine wpAnyM_take 6 (v := ?_) rfl (by kernel_rfl) (fun _ _ _ h => h) (Or.inl ⟨by rfl, ?_⟩) (by assumption) ?_
          rotate_left
          · (intro wx hSw; (try dsimp only at hSw); go_simp; (try with_reducible rfl))
          (try simp only [Act.put, nA, nB, nC])
          refine wpAnyM_take 7 (v := ?_) rfl (by kernel_rfl) (fun _ _ _ h => h) (Or.inl ⟨by rfl, ?_⟩) (by assumption) ?_
          rotate_left
          · (intro wx hSw; (try dsimp only at hSw); go_simp; (try with_reducible rfl))
          (try simp only [Act.put, nA, nB, nC])
          refine wpAnyM_take 8 (v := ?_) rfl (by kernel_rfl) (fun _ _ _ h => h) (Or.inl ⟨by rfl, ?_⟩) (by assumption) ?_
          rotate_left
          · (intro wx hSw; (try dsimp only at hSw); go_simp; (try with_reducible rfl))
          (try simp only [Act.put, nA, nB, nC])
          refine wpAnyM_take 9 (v := ?_) rfl (by kernel_rfl) (fun _ _ _ h => h) (Or.inl ⟨by rfl, ?_⟩) (by assumption) ?_
          rotate_left
          · (intro wx hSw; (try dsimp only at hSw); go_simp; (try with_reducible rfl))
          (try simp only [Act.put, nA, nB, nC])
          refine wpAnyM_take 10 (v := ?_) rfl (by kernel_rfl) (fun _ _ _ h => h) (Or.inl ⟨by rfl, ?_⟩) (by assumption) ?_
          rotate_left
          · (intro wx hSw; (try dsimp only at hSw); go_simp; (try with_reducible rfl))
          (try simp only [Act.put, nA, nB, nC])
          refine wpAnyM_take 11 (v := ?_) rfl (by kernel_rfl) (fun _ _ _ h => h) (Or.inl ⟨by rfl, ?_⟩) (by assumption) ?_
          rotate_left
          · (intro wx hSw; (try dsimp only at hSw); go_simp; (first | rw [if_pos (by omega)] | rw [if_pos ⟨by omega, by omega⟩] | skip); (try with_reducible rfl))
          (try simp only [Act.put, nA, nB, nC])
          refine wpAnyM_take 12 (v := ?_) rfl (by kernel_rfl) (fun _ _ _ h => h) (Or.inl ⟨by rfl, ?_⟩) (by assumption) ?_
          rotate_left
          · (intro wx hSw; (try dsimp only at hSw); go_simp; (try with_reducible rfl))
          (try simp only [Act.put, nA, nB, nC])
          refine wpAnyM_oneS 13 rfl (by kernel_rfl) (fun K hK => ?_)
          go_simp
          (refine MC.out.mono ?_); rintro e w7 ⟨rfl, hu7⟩; have L7 := Lib.hid (L6.out.upd' hcb hbw hb2 hb3 (Upd.after (Below.drew (Below.refl _ _)) hu7)); have hz7 := L7.out.bB.lt; clear hu7 HM2
          (try dsimp only)
          (try simp only [Act.put, nA, nB, nC])
          clear hHeld
          refine hK.out _ _ ?_ (fun hHeld => ?_)
          · exact upd_keep4 EB.out EN.out L7.out.nB L7.out.bB (by omega) hlt
          clear hK K
          (try simp only [Act.put, nA, nB, nC])
          refine wpAnyM_oneS 14 rfl (by kernel_rfl) (fun K hK => ?_)
          go_simp
          clear hHeld
          refine hK.out _ _ ?_ (fun hHeld => ?_)
          · exact upd_keep4 EB.out EN.out (L7.out.nB.alloc _) (L7.out.bB.alloc _) (by omega) hlt
          clear hK K
          (try simp only [Act.put, nA, nB, nC])
          refine wpAnyM_oneS 15 rfl (by kernel_rfl) (fun K hK => ?_)
          go_simp
          have L7' := L7.out.down hbw hb2 hb3 ((Below.refl (bb + 1) w7).alloc (by omega) (.cells #[.int .i64 BV, .int .i64 QV] 2)); (refine (fadd_any c _ (two BV QV) w7.heap.size 0 2 2 _ (L7'.upd.cellc HC.out) ((L7'.upd.frozen hcb).trans HF.out) (by decide) (by intro i hi; obtain rfl | rfl : i = 0 ∨ i = 1 := (by omega); simp [go_sem, two]; simp [go_sem, two])).mono ?_); (rw [(add2 BV QV true).1, (add2 BV QV _).2]); rintro e w8 ⟨rfl, hu8⟩; have L8 := Lib.hid (L7'.upd' hcb hbw hb2 hb3 hu8); have n0 := L8.out.bB.cell (i := m) (by omega); have n1 := L8.out.bB.free m; clear hu8 L7'
          (try dsimp only)
          (try simp only [Act.put, nA, nB, nC])
          clear hHeld
          refine hK.out _ _ ?_ (fun hHeld => ?_)
          · exact upd_keep4 EB.out EN.out L8.out.nB L8.out.bB (by omega) hlt
          clear hK K
          (try simp only [Act.put, nA, nB, nC])
          refine wpAnyM_take 16 (v := ?_) rfl (by kernel_rfl) (fun _ _ _ h => h) (Or.inl ⟨by rfl, ?_⟩) (by assumption) ?_
          rotate_left
          · (intro wx hSw; (try dsimp only at hSw); go_simp; (first | rw [if_pos (by omega)] | rw [if_pos ⟨by omega, by omega⟩] | skip); (try with_reducible rfl))
          (try simp only [Act.put, nA, nB, nC])
          refine wpAnyM_one 17 rfl (by kernel_rfl) (fun K hK => ?_)
          go_simp
          refine hK.out _ _ (.inl (by kernel_rfl)) (fun _ => ?_)
          clear hK K
          (try simp only [Act.put, nA, nB, nC])
          refine wpAnyM_done (by kernel_rfl) ?_ _
          have L9 := Lib.hid (L8.out.setB hbw hb2 hb3 m (addV BV QV))
          generalize w8.setCell ⟨bb, m, none⟩ (.int .i64 (addV BV QV)) = W9 at *
          clear n0 n1 L6 L7 L8 hz7 MC
          (try clear hHeld)
          go_wp2_with fail
          go_roundw
          case rel =>
            refine ⟨m + 1, by omega, by go_num, Lib.hid (L9.out.is ?_ ?_ ?_)⟩
            · obtain ⟨v1, v2, v3, v4, v5, v6, v7, v8, v9⟩ := EV.out
              obtain ⟨u1, u2, u3, u4, u5, u6, u7, u8, u9⟩ := EM.out
              rw [← u1, ← u9, ← u7, ← u8, ← u6, ← u5, ← u4, ← EY.out, ← v3, ← v8, ← v2, ← v4]
              simp only [orB, upRH, upUH, upBH, upX, Bool.or_assoc]
            · intro i hi
              obtain ⟨v1, v2, v3, v4, v5, v6, v7, v8, v9⟩ := EV.out
              obtain ⟨u1, u2, u3, u4, u5, u6, u7, u8, u9⟩ := EM.out
              rw [← EO1.out, ← u2, ← u6, ← u5, ← u4, ← EY.out, ← v8, ← v2, ← v4]; rfl
            · intro i hi
              obtain ⟨v1, v2, v3, v4, v5, v6, v7, v8, v9⟩ := EV.out
              obtain ⟨u1, u2, u3, u4, u5, u6, u7, u8, u9⟩ := EM.out
              rw [← u3, ← u8, ← u5, ← u4, ← v3]
              simp only [Go.Proofs.Ytkllgphhfkoknaa.upd, upBm]
              by_cases h1 : i = m
              · subst h1; rw [if_pos rfl, if_neg (by omega), if_pos (by omega)]
              · rw [if_neg h1]
                by_cases h2 : i = j
                · rw [if_pos h2, if_pos h2]
                · rw [if_neg h2, if_neg h2]; split <;> split <;> first | rfl | omega
          case measure => simp [intOf]; omega
        · have hmj2 : m = j := by omega
          subst hmj2
          have d2 : decide ((m : Int) < (m : Int)) = false := by simp
          go_wp2_with fail
          go_roundw
          case rel =>
            refine ⟨m + 1, by omega, by go_num, Lib.hid (R2.out.is ?_ ?_ ?_)⟩
            · obtain ⟨v1, v2, v3, v4, v5, v6, v7, v8, v9⟩ := EV.out
              rw [← EX.out, ← EJ.out.1, ← v6, ← v7, ← v9, ← v1, ← v2, ← v4, ← v5]
              simp only [orB, upCH, upDH, upXH, varH, Bool.or_assoc]
            · intro i hi; rw [← EJ.out.2.1]; rfl
            · intro i hi; rfl
          case measure => simp [intOf]; omega
    · have hj24 : j = 24 := by omega
      subst hj24
      obtain ⟨HJ, hHJ⟩ : ∃ x, (LH || orB (upCH P Hs R) 24) = x := ⟨_, rfl⟩
      obtain ⟨FO, hFO⟩ : ∃ x, upO P Hs R 24 = x := ⟨_, rfl⟩
      obtain ⟨FB, hFB⟩ : ∃ x, upB P Hs 24 = x := ⟨_, rfl⟩
      obtain ⟨SV, hSV⟩ : ∃ x, N 372 = x := ⟨_, rfl⟩
      have hSA : bkA P Hs R 24 = SV := by
        rw [← hSV, ← HN.out]; unfold knN; rw [if_neg (by omega), if_neg (by omega), if_neg (by omega), if_pos (by omega)]
      have hUV := HUV.out
      have hUF := HUF.out
      rw [hHJ] at R1 hUF
      rw [hFO] at R1 hUV
      rw [hFB] at R1
      rw [hSV] at hUV
      have EV := Lib.hid hUV
      have EF := Lib.hid hUF
      have ES := Lib.hid (And.intro hSV (And.intro hSA hFB))
      obtain ⟨bg, hbg⟩ : ∃ x, wr.heap.size = x := ⟨_, rfl⟩
      have hb4 : bb < bg := by rw [← hbg]; exact R1.out.bB.lt
      have R2 := Lib.hid (R1.out.down hbw hb2 hb3 ((Below.refl (bb + 1) wr).alloc (by omega) (.cells #[.int .i64 0, .int .i64 0, .int .i64 0, .int .i64 0, .int .i64 0, .int .i64 0, .int .i64 0, .int .i64 0, .int .i64 0, .int .i64 0, .int .i64 0, .int .i64 0, .int .i64 0, .int .i64 0, .int .i64 0, .int .i64 0, .int .i64 0, .int .i64 0, .int .i64 0, .int .i64 0, .int .i64 0, .int .i64 0, .int .i64 0, .int .i64 0] 26)))
      have G2 : Blk (wr.alloc (.cells #[.int .i64 0, .int .i64 0, .int .i64 0, .int .i64 0, .int .i64 0, .int .i64 0, .int .i64 0, .int .i64 0, .int .i64 0, .int .i64 0, .int .i64 0, .int .i64 0, .int .i64 0, .int .i64 0, .int .i64 0, .int .i64 0, .int .i64 0, .int .i64 0, .int .i64 0, .int .i64 0, .int .i64 0, .int .i64 0, .int .i64 0, .int .i64 0] 26)) bg 26 24 (fun _ => 0) := by rw [zrow, ← hbg]; exact Blk.new wr _ _ _
      have HG2 := Lib.hid G2
      clear hHJ hFO hFB hSV hSA hUV hUF R1 G2 HQ
      rw [show ((24 : Nat) : Int) = 24 from rfl]
      go_upto_region 19 with fail
      (try rw [hbg])
      generalize wr.alloc (.cells #[.int .i64 0, .int .i64 0, .int .i64 0, .int .i64 0, .int .i64 0, .int .i64 0, .int .i64 0, .int .i64 0, .int .i64 0, .int .i64 0, .int .i64 0, .int .i64 0, .int .i64 0, .int .i64 0, .int .i64 0, .int .i64 0, .int .i64 0, .int .i64 0, .int .i64 0, .int .i64 0, .int .i64 0, .int .i64 0, .int .i64 0, .int .i64 0] 26) = W4 at *
      clear hbg
      go_wp2_with fail
      go_loopw [126] (fun i wr => ∃ k : Nat, k ≤ 24 ∧ i = .int .i64 k ∧ Hid (UpR c (HJ || orB (upGH P Hs R) k) b bo bb N FO FB w wr ∧ Blk wr bg 26 24 (fun i => if i < k then upG P Hs R i else 0))) (fun i _ => 24 - (intOf i).toNat)
      case atStart =>
        refine ⟨0, by omega, rfl, ?_, ?_⟩
        · rw [show (HJ || orB (upGH P Hs R) 0) = HJ from by simp [orB]]; exact R2.out
        · exact HG2.out.congr fun i hi => by simp
      case round =>
        obtain ⟨k, hk, rfl, R3⟩ := hrel
        by_cases hlk : k < 24
        · have d2 : decide ((k : Int) < 24) = true := by simp; omega
          obtain ⟨HK, hHK⟩ : ∃ x, (HJ || orB (upGH P Hs R) k) = x := ⟨_, rfl⟩
          obtain ⟨BV, hBV⟩ : ∃ x, FB k = x := ⟨_, rfl⟩
          obtain ⟨QV, hQV⟩ : ∃ x, divV BV SV 30 = x := ⟨_, rfl⟩
          obtain ⟨QH, hQH⟩ : ∃ x, divH BV SV 30 = x := ⟨_, rfl⟩
          have L1 := R3.out.1
          rw [hHK] at L1
          have HL1 := Lib.hid L1
          have G1 := Lib.hid R3.out.2
          have HM1 := Lib.hid (upd_keep5 hBV ES.out.1 L1.nB L1.bB hlk)
          have DC := Lib.hid (fdiv_any c HK BV SV 30 wr.drew (by exact L1.upd.cellc HC.out) (by exact (L1.upd.frozen hcb).trans HF.out))
          rw [hQV, hQH] at DC
          have EK := Lib.hid (And.intro hHK (And.intro hBV (And.intro hQV hQH)))
          clear hHK hBV hQV hQH L1 R3 R2 HG2
          go_upto_region 22 with fail
          refine wp_region_M (fun w' => w'.cell? ⟨bb, k, none⟩ = some (.int .i64 BV) ∧ w'.cell? ⟨b, 372, none⟩ = some (.int .i64 SV)) 12 (by kernel_rfl) ?_ (fun hHeld => ?_)
          · exact HM1.out
          refine wpAnyM_take 0 (v := ?_) rfl (by kernel_rfl) (fun _ _ _ h => h) (Or.inl ⟨by rfl, ?_⟩) (by assumption) ?_
          rotate_left
          · (intro wx hSw; (try dsimp only at hSw); go_simp; (try with_reducible rfl))
          (try simp only [Act.put, nA, nB, nC])
          refine wpAnyM_take 1 (v := ?_) rfl (by kernel_rfl) (fun _ _ _ h => h) (Or.inl ⟨by rfl, ?_⟩) (by assumption) ?_
          rotate_left
          · (intro wx hSw; (try dsimp only at hSw); go_simp; (try with_reducible rfl))
          (try simp only [Act.put, nA, nB, nC])
          refine wpAnyM_take 2 (v := ?_) rfl (by kernel_rfl) (fun _ _ _ h => h) (Or.inl ⟨by rfl, ?_⟩) (by assumption) ?_
          rotate_left
          · (intro wx hSw; (try dsimp only at hSw); go_simp; (try with_reducible rfl))
          (try simp only [Act.put, nA, nB, nC])
          refine wpAnyM_take 3 (v := ?_) rfl (by kernel_rfl) (fun _ _ _ h => h) (Or.inl ⟨by rfl, ?_⟩) (by assumption) ?_
          rotate_left
          · (intro wx hSw; (try dsimp only at hSw); go_simp; (first | rw [if_pos (by omega)] | rw [if_pos ⟨by omega, by omega⟩] | skip); (try with_reducible rfl))
          (try simp only [Act.put, nA, nB, nC])
          refine wpAnyM_take 4 (v := ?_) rfl (by kernel_rfl) (fun _ _ _ h => h) (Or.inl ⟨by rfl, ?_⟩) (by assumption) ?_
          rotate_left
          · (intro wx hSw; (try dsimp only at hSw); go_simp; (try with_reducible rfl))
          (try simp only [Act.put, nA, nB, nC])
          refine wpAnyM_take 5 (v := ?_) rfl (by kernel_rfl) (fun _ _ _ h => h) (Or.inl ⟨by rfl, ?_⟩) (by assumption) ?_
          rotate_left
          · (intro wx hSw; (try dsimp only at hSw); go_simp; (try with_reducible rfl))
          (try simp only [Act.put, nA, nB, nC])
          refine wpAnyM_take 6 (v := ?_) rfl (by kernel_rfl) (fun _ _ _ h => h) (Or.inl ⟨by rfl, ?_⟩) (by assumption) ?_
          rotate_left
          · (intro wx hSw; (try dsimp only at hSw); go_simp; (try with_reducible rfl))
          (try simp only [Act.put, nA, nB, nC])
          refine wpAnyM_take 7 (v := ?_) rfl (by kernel_rfl) (fun _ _ _ h => h) (Or.inl ⟨by rfl, ?_⟩) (by assumption) ?_
          rotate_left
          · (intro wx hSw; (try dsimp only at hSw); go_simp; (try with_reducible rfl))
          (try simp only [Act.put, nA, nB, nC])
          refine wpAnyM_take 8 (v := ?_) rfl (by kernel_rfl) (fun _ _ _ h => h) (Or.inl ⟨by rfl, ?_⟩) (by assumption) ?_
          rotate_left
          · (intro wx hSw; (try dsimp only at hSw); go_simp; (try with_reducible rfl))
          (try simp only [Act.put, nA, nB, nC])
          refine wpAnyM_take 9 (v := ?_) rfl (by kernel_rfl) (fun _ _ _ h => h) (Or.inl ⟨by rfl, ?_⟩) (by assumption) ?_
          rotate_left
          · (intro wx hSw; (try dsimp only at hSw); go_simp; (try with_reducible rfl))
          (try simp only [Act.put, nA, nB, nC])
          refine wpAnyM_oneS 10 rfl (by kernel_rfl) (fun K hK => ?_)
          go_simp
          (refine DC.out.mono ?_); rintro e w2 ⟨rfl, hu2⟩; have L2 := Lib.hid (HL1.out.upd' hcb hbw hb2 hb3 (Upd.after (Below.drew (Below.refl _ _)) hu2)); have G2 := Lib.hid (G1.out.upd (Upd.after (Below.drew (Below.refl _ _)) hu2) (by omega)); have n0 := G2.out.cell (i := k) (by omega); have n1 := G2.out.free k; clear hu2
          (try dsimp only)
          (try simp only [Act.put, nA, nB, nC])
          clear hHeld
          refine hK.out _ _ ?_ (fun hHeld => ?_)
          · exact upd_keep5 EK.out.2.1 ES.out.1 L2.out.nB L2.out.bB hlk
          clear hK K
          (try simp only [Act.put, nA, nB, nC])
          refine wpAnyM_take 11 (v := ?_) rfl (by kernel_rfl) (fun _ _ _ h => h) (Or.inl ⟨by rfl, ?_⟩) (by assumption) ?_
          rotate_left
          · (intro wx hSw; (try dsimp only at hSw); go_simp; (first | rw [if_pos (by omega)] | rw [if_pos ⟨by omega, by omega⟩] | skip); (try with_reducible rfl))
          (try simp only [Act.put, nA, nB, nC])
          refine wpAnyM_one 12 rfl (by kernel_rfl) (fun K hK => ?_)
          go_simp
          refine hK.out _ _ (.inl (by kernel_rfl)) (fun _ => ?_)
          clear hK K
          (try simp only [Act.put, nA, nB, nC])
          refine wpAnyM_done (by kernel_rfl) ?_ _
          have L3 := Lib.hid (L2.out.down hbw hb2 hb3 ((Below.refl (bb + 1) w2).setCell (p := ⟨bg, k, none⟩) (by simp; omega) (.int .i64 QV)))
          have G3 := Lib.hid (G2.out.set k QV)
          generalize w2.setCell ⟨bg, k, none⟩ (.int .i64 QV) = W5 at *
          clear n0 n1 L2 G2 HL1 G1 HM1 DC
          (try clear hHeld)
          go_wp2_with fail
          go_roundw
          case rel =>
            obtain ⟨u1, u2, u3, u4⟩ := EK.out
            have eg : upG P Hs R k = QV := by unfold upG; rw [ES.out.2.2, u2, ES.out.2.1, u3]
            have eh : upGH P Hs R k = QH := by unfold upGH; rw [ES.out.2.2, u2, ES.out.2.1, u4]
            refine ⟨k + 1, by omega, by go_num, ?_, G3.out.congr fun i hi => ?_⟩
            · rw [show (HJ || orB (upGH P Hs R) (k + 1)) = (HK || QH) from by rw [← u1, ← eh]; simp [orB, Bool.or_assoc]]
              exact L3.out
            · simp only [Go.Proofs.Ytkllgphhfkoknaa.upd]
              by_cases h1 : i = k
              · subst h1; rw [if_pos rfl, if_pos (by omega), eg]
              · rw [if_neg h1]; split <;> split <;> first | rfl | omega
          case measure => simp [intOf]; omega
        · have hk24 : k = 24 := by omega
          subst hk24
          have L1 := R3.out.1
          have G1 := R3.out.2.congr (g := upG P Hs R) fun i hi => by simp [hi]
          rw [EF.out] at L1
          obtain ⟨GG, hGG⟩ : ∃ x, upG P Hs R = x := ⟨_, rfl⟩
          have hUV := EV.out
          rw [hGG] at G1 hUV
          have EV2 := Lib.hid hUV
          have HL1 := Lib.hid L1
          have HG1 := Lib.hid G1
          have s0 := L1.nB.cell (i := 372) (by omega)
          rw [ES.out.1] at s0
          have HM1 := Lib.hid (And.intro L1.oB (And.intro G1 s0))
          have LD := L1.drew
          have T1 : Blk (wr.drew.setRow (w.heap.size + 1 + 1) (arrv 300 FO)) bo 25 300 FO := LD.oB.setRow_other _ (by omega)
          have T2 : Blk (wr.drew.setRow (w.heap.size + 1 + 1) (arrv 300 FO)) bg 26 24 GG := G1.drew.setRow_other _ (by omega)
          have T3 : Blk (wr.drew.setRow (w.heap.size + 1 + 1) (arrv 300 FO)) b 48 373 N := LD.nB.setRow_other _ (by omega)
          have T4 : Blk (wr.drew.setRow (w.heap.size + 1 + 1) (arrv 300 FO)) (w.heap.size + 1 + 1 + 1) 26 24 (fun _ => 0) := LD.r1.setRow_other _ (by omega)
          have HR2 := Lib.hid T4
          have HM2 := Lib.hid (And.intro T1 (And.intro T2 (show (wr.drew.setRow (w.heap.size + 1 + 1) (arrv 300 FO)).cell? ⟨b, 372, none⟩ = some (.int .i64 SV) from by rw [T3.cell (by omega), ES.out.1])))
          have V1 : Blk ((wr.drew.setRow (w.heap.size + 1 + 1) (arrv 300 FO)).setRow (w.heap.size + 1 + 1 + 1) (arrv 24 GG)) bo 25 300 FO := T1.setRow_other _ (by omega)
          have V2 : Blk ((wr.drew.setRow (w.heap.size + 1 + 1) (arrv 300 FO)).setRow (w.heap.size + 1 + 1 + 1) (arrv 24 GG)) bg 26 24 GG := T2.setRow_other _ (by omega)
          have V3 : Blk ((wr.drew.setRow (w.heap.size + 1 + 1) (arrv 300 FO)).setRow (w.heap.size + 1 + 1 + 1) (arrv 24 GG)) b 48 373 N := T3.setRow_other _ (by omega)
          have HM3 := Lib.hid (And.intro V1 (And.intro V2 (show ((wr.drew.setRow (w.heap.size + 1 + 1) (arrv 300 FO)).setRow (w.heap.size + 1 + 1 + 1) (arrv 24 GG)).cell? ⟨b, 372, none⟩ = some (.int .i64 SV) from by rw [V3.cell (by omega), ES.out.1])))
          have D1 := Lib.hid ((LD.r0.setRow FO).setRow_other (arrv 24 GG) (show w.heap.size + 1 + 1 ≠ w.heap.size + 1 + 1 + 1 by omega))
          have D2 := Lib.hid (T4.setRow GG)
          have DU := Lib.hid ((LD.upd.then' (below_row (Below.refl _ _) (show w.heap.size ≤ w.heap.size + 1 + 1 by omega) (arrv 300 FO))).then' (below_row (Below.refl _ _) (show w.heap.size ≤ w.heap.size + 1 + 1 + 1 by omega) (arrv 24 GG)))
          clear hUV hGG L1 G1 s0 R3 R2 HG2 EV LD T1 T2 T3 T4 V1 V2 V3
          rw [show ((24 : Nat) : Int) = 24 from rfl]
          go_upto_region 24 with fail
          refine wp_region_M (fun w' => Blk w' bo 25 300 FO ∧ Blk w' bg 26 24 GG ∧ w'.cell? ⟨b, 372, none⟩ = some (.int .i64 SV)) 9 (by kernel_rfl) ?_ (fun hHeld => ?_)
          · exact HM1.out
          refine wpAnyM_take 0 (v := ?_) rfl (by kernel_rfl) (fun _ _ _ h => h) (Or.inl ⟨by rfl, ?_⟩) (by assumption) ?_
          rotate_left
          · (intro wx hSw; refine Eq.trans (run_load_row 25 (.tmp 12) (by rfl) (bo) (by rfl) _ _ _ _ (hSw.1) Try.underlying25 rfl (icov.trans (by rw [arrv_size]))) ?_; with_reducible rfl)
          (try simp only [Act.put, nA, nB, nC])
          refine wpAnyM_take 1 (v := ?_) rfl (by kernel_rfl) (fun _ _ _ h => h) (Or.inl ⟨by rfl, ?_⟩) (by assumption) ?_
          rotate_left
          · (intro wx hSw; refine Eq.trans (run_load_row 26 (.tmp 18) (by rfl) (bg) (by rfl) _ _ _ _ (hSw.2.1) Try.underlying26 rfl (irow.trans (by rw [arrv_size]))) ?_; with_reducible rfl)
          (try simp only [Act.put, nA, nB, nC])
          refine wpAnyM_take 2 (v := ?_) rfl (by kernel_rfl) (fun _ _ _ h => h) (Or.inl ⟨by rfl, ?_⟩) (by assumption) ?_
          rotate_left
          · (intro wx hSw; (try dsimp only at hSw); go_simp; (try with_reducible rfl))
          (try simp only [Act.put, nA, nB, nC])
          refine wpAnyM_take 3 (v := ?_) rfl (by kernel_rfl) (fun _ _ _ h => h) (Or.inl ⟨by rfl, ?_⟩) (by assumption) ?_
          rotate_left
          · (intro wx hSw; (try dsimp only at hSw); go_simp; (try with_reducible rfl))
          (try simp only [Act.put, nA, nB, nC])
          refine wpAnyM_take 4 (v := ?_) rfl (by kernel_rfl) (fun _ _ _ h => h) (Or.inl ⟨by rfl, ?_⟩) (by assumption) ?_
          rotate_left
          · (intro wx hSw; (try dsimp only at hSw); go_simp; (try with_reducible rfl))
          (try simp only [Act.put, nA, nB, nC])
          refine wpAnyM_take 5 (v := ?_) rfl (by kernel_rfl) (fun _ _ _ h => h) (Or.inl ⟨by rfl, ?_⟩) (by assumption) ?_
          rotate_left
          · (intro wx hSw; (try dsimp only at hSw); go_simp; (try with_reducible rfl))
          (try simp only [Act.put, nA, nB, nC])
          refine wpAnyM_take 6 (v := ?_) rfl (by kernel_rfl) (fun _ _ _ h => h) (Or.inl ⟨by rfl, ?_⟩) (by assumption) ?_
          rotate_left
          · (intro wx hSw; (try dsimp only at hSw); go_simp; (try with_reducible rfl))
          (try simp only [Act.put, nA, nB, nC])
          refine wpAnyM_oneS 7 rfl (by kernel_rfl) (fun K hK => ?_)
          go_simp; rw [if_pos (arrv_size _ _), run_storeCells_row _ HL1.out.r0.drew]; go_simp
          clear hHeld
          refine hK.out _ _ ?_ (fun hHeld => ?_)
          · exact HM2.out
          clear hK K
          (try simp only [Act.put, nA, nB, nC])
          refine wpAnyM_oneS 8 rfl (by kernel_rfl) (fun K hK => ?_)
          go_simp; rw [if_pos (arrv_size _ _), run_storeCells_row _ HR2.out]; go_simp
          clear hHeld
          refine hK.out _ _ ?_ (fun hHeld => ?_)
          · exact HM3.out
          clear hK K
          (try simp only [Act.put, nA, nB, nC])
          refine wpAnyM_one 9 rfl (by kernel_rfl) (fun K hK => ?_)
          go_simp
          refine hK.out _ _ (.inl (by kernel_rfl)) (fun _ => ?_)
          clear hK K
          (try simp only [Act.put, nA, nB, nC])
          refine wpAnyM_done (by kernel_rfl) ?_ _
          (try clear hHeld)
          go_wp2_with fail
          refine bodyPost_ret_by (results_rows2 Try.results5 _ _ (w.heap.size + 1 + 1) (w.heap.size + 1 + 1 + 1) 25 26 (arrv 300 FO) (arrv 24 GG) (0, 0) (0, 0) _ _ rfl D1.out Try.underlying25 rfl (icov.trans (by rw [arrv_size])) rfl D2.out Try.underlying26 rfl (irow.trans (by rw [arrv_size])) (.int .i64 SV) rfl) rfl ⟨?_, ?_⟩
          · exact EV2.out
          · exact DU.out
end Go.Proofs.Ytkllgphhfkoknaa
