/- Contracts of the program's functions and plain laws, part 7: they hold for all arguments. -/
import Derived.Test.YtkllgphhfkoknaaQ04
import Derived.Test.YtkllgphhfkoknaaQ05
import Derived.Test.YtkllgphhfkoknaaQ06
import Derived.Test.YtkllgphhfkoknaaQ03
/- bierman's 'known': the struct built of the factors alone. -/
/- Contract of bierman.look. -/
namespace Go.Proofs.Ytkllgphhfkoknaa
open Go.RowKit
set_option maxRecDepth 100000
theorem known_zero : (Try.prog.info? 48).map (fun i => i.zero.map Value.cells) = some (some (arrv 373 (fun _ => 0))) := by kernel_rfl
theorem known_places : (match Try.prog.underlying 48 with
    | some (.struct fields) => fields.toList.mapM (fun f => (Try.prog.info? f.type).map fun i => (f.offset, i.size))
    | _ => none) = some [(0, 300), (300, 24), (324, 24), (348, 25)] := by kernel_rfl
theorem known_built (f : Nat → Int) : Try.prog.built 48 [(0, .agg (arrv 300 f))] = some (arrv 373 (fun x => if x < 300 then f x else 0)) := by
  have h1 := known_zero
  have h2 := known_places
  unfold Program.built
  cases hit : Try.prog.info? 48 with
  | none => rw [hit] at h1; cases h1
  | some it =>
    cases hu : Try.prog.underlying 48 with
    | none => rw [hu] at h2; cases h2
    | some d =>
      rw [hu] at h2
      cases d
      case struct fields =>
        rw [hit] at h1
        cases hz : it.zero with
        | none => simp [hz] at h1
        | some z =>
          have hzc : z.cells = arrv 373 (fun _ => 0) := by simpa [hz] using h1
          simp only at h2
          simp only [hz, h2, hzc]
          exact fill_first _ 300 73 f rfl
      all_goals (simp at h2)
theorem rowu : Try.prog.underlying 26 = some (.array (Try.prog.arrayLen 26) (Try.prog.elem 26)) := by kernel_rfl
theorem rowlen : Try.prog.arrayLen 26 = 24 := by kernel_rfl
open Go in
/-- h[:n] of a row. -/
theorem run_slice_row {o : Oper} {ev : Operand → Value} {w : World} (x y : Operand) (ho : o.op = .slice 26 x none (some y) none) (g : Nat) (hx : ev x = .pointer (some ⟨g, 0, none⟩))
    (z : Int) (hy : ev y = .int .i64 z) (n : Nat) (hz : z = n) (hn : n ≤ 24) : (execOp ev o).run Try.prog w = .ok (.value (.slice (some ⟨g, 0, none⟩) n 24)) w := by
  have h := run_sliceAt_array_h (P := Try.prog) w 26 ⟨g, 0, none⟩ rowu .i64 z (by omega) (by rw [rowlen]; omega)
  subst hz
  unfold execOp
  simp only [ho, hx, hy, Option.map_some, Option.map_none]
  rw [Sem.run_bind, h]
  have hs : (sizeOf (Try.prog.elem 26)).run Try.prog w = .ok 1 w := by rw [show Try.prog.elem 26 = 2 from by kernel_rfl]; simp [go_sem]
  rw [hs, rowlen]
  simp [slicedAt, go_sem]
end Go.Proofs.Ytkllgphhfkoknaa
namespace Go.Proofs.Ytkllgphhfkoknaa
open Go.RowKit
set_option maxRecDepth 100000
open Go in
theorem wpList_known {ops : Array Oper} {rest : List Oper} {o : Oper} {a : Act} {w : World} {Q : Exit → Act → World → Prop} {f : Nat → Int} (hgd : o.guard = none) (x : Operand) (ho : o.op = .build 48 #[(0, x)])
    (hx : a.eval x = .agg (arrv 300 f)) (h : wpList Try.prog ops Q rest (a.put o.dst (.agg (arrv 373 (fun x => if x < 300 then f x else 0)))) w) : wpList Try.prog ops Q (o :: rest) a w :=
  wpList_plain hgd fun _ hK => by
    unfold Oper.wp execOp
    simp only [ho, Sem.run_bind, List.map_toArray, List.map_cons, List.map_nil, hx, run_build w _ _ _ (known_built f), Result.andThen_ok]
    exact hK _ _ h
/-- The block's numbers: factors p, what is reckoned up to j. -/
def knN (p h : Nat → Int) (r : Int) (j : Nat) : Nat → Int := fun x =>
  if x < 300 then p x else if x < 324 then (if x < 300 + j then bkF p h (x - 300) else 0) else if x < 348 then (if x < 324 + j then bkV p h (x - 324) else 0) else if x ≤ 348 + j then bkA p h r (x - 348) else 0
theorem upd_same {f : Nat → Int} {j : Nat} {v : Int} : Go.Proofs.Ytkllgphhfkoknaa.upd f j v j = v := by simp [Go.Proofs.Ytkllgphhfkoknaa.upd]
theorem upd_other {f : Nat → Int} {i j : Nat} {v : Int} (h : i ≠ j) : Go.Proofs.Ytkllgphhfkoknaa.upd f j v i = f i := by simp [Go.Proofs.Ytkllgphhfkoknaa.upd, h]
theorem knN_D {p h : Nat → Int} {r v : Int} {j : Nat} (hj : j < 24) : Go.Proofs.Ytkllgphhfkoknaa.upd (knN p h r j) (300 + j) v (276 + j) = p (276 + j) := by
  rw [upd_other (by omega)]; unfold knN; rw [if_pos (by omega)]
theorem knN_A {p h : Nat → Int} {r v u : Int} {j : Nat} (hj : j < 24) : Go.Proofs.Ytkllgphhfkoknaa.upd (Go.Proofs.Ytkllgphhfkoknaa.upd (knN p h r j) (300 + j) v) (324 + j) u (348 + j) = bkA p h r j := by
  rw [upd_other (by omega), upd_other (by omega)]; unfold knN; rw [if_neg (by omega), if_neg (by omega), if_neg (by omega), if_pos (by omega)]; congr 1; omega
theorem look_keep {p h N1 N2 : Nat → Int} {r v u a : Int} {j b : Nat} {w : World} (h1 : Go.Proofs.Ytkllgphhfkoknaa.upd (knN p h r j) (300 + j) v = N1) (h2 : Go.Proofs.Ytkllgphhfkoknaa.upd N1 (324 + j) u = N2) (h3 : bkA p h r j = a) (hj : j < 24) (hN : Blk w b 48 373 N2) :
    w.cell? ⟨b, 348 + j, none⟩ = some (.int .i64 a) ∧ w.cell? ⟨b, 300 + j, none⟩ = some (.int .i64 v) ∧ w.cell? ⟨b, 324 + j, none⟩ = some (.int .i64 u) := by
  subst h1 h2 h3
  refine ⟨?_, ?_, ?_⟩
  · rw [hN.cell (by omega), knN_A hj]
  · rw [hN.cell (by omega), upd_other (by omega), upd_same]
  · rw [hN.cell (by omega), upd_same]
theorem look_next {p h N1 N2 : Nat → Int} {r FV VV AV MV : Int} {j : Nat} (hj : j < 24) (h1 : dotV 30 h (colF p j) (j + 1) = FV) (h2 : mulV (p (276 + j)) FV 30 = VV) (h3 : bkA p h r j = AV) (h4 : mulV FV VV 30 = MV)
    (h5 : Go.Proofs.Ytkllgphhfkoknaa.upd (knN p h r j) (300 + j) FV = N1) (h6 : Go.Proofs.Ytkllgphhfkoknaa.upd N1 (324 + j) VV = N2) : ∀ i, i < 373 → Go.Proofs.Ytkllgphhfkoknaa.upd N2 (348 + (j + 1)) (addV AV MV) i = knN p h r (j + 1) i := by
  intro i hi
  have eF : bkF p h j = FV := h1
  have eV : bkV p h j = VV := by rw [← h2, ← eF]; rfl
  have eA : bkA p h r (j + 1) = addV AV MV := by rw [← h3, ← h4, ← eV, ← eF]; rfl
  subst h5 h6
  by_cases e0 : i = 348 + (j + 1)
  · subst e0
    rw [upd_same]; unfold knN; rw [if_neg (by omega), if_neg (by omega), if_neg (by omega), if_pos (by omega), show 348 + (j + 1) - 348 = j + 1 by omega, eA]
  rw [upd_other e0]
  by_cases e1 : i = 324 + j
  · subst e1
    rw [upd_same]; unfold knN; rw [if_neg (by omega), if_neg (by omega), if_pos (by omega), if_pos (by omega), show 324 + j - 324 = j by omega, eV]
  rw [upd_other e1]
  by_cases e2 : i = 300 + j
  · subst e2
    rw [upd_same]; unfold knN; rw [if_neg (by omega), if_pos (by omega), if_pos (by omega), show 300 + j - 300 = j by omega, eF]
  rw [upd_other e2]
  unfold knN
  by_cases g1 : i < 300
  · rw [if_pos g1, if_pos g1]
  rw [if_neg g1, if_neg g1]
  by_cases g2 : i < 324
  · rw [if_pos g2, if_pos g2]
    by_cases g3 : i < 300 + j
    · rw [if_pos g3, if_pos (by omega)]
    · rw [if_neg g3, if_neg (by omega)]
  rw [if_neg g2, if_neg g2]
  by_cases g4 : i < 348
  · rw [if_pos g4, if_pos g4]
    by_cases g3 : i < 324 + j
    · rw [if_pos g3, if_pos (by omega)]
    · rw [if_neg g3, if_neg (by omega)]
  rw [if_neg g4, if_neg g4]
  by_cases g5 : i ≤ 348 + j
  · rw [if_pos g5, if_pos (by omega)]
  · rw [if_neg g5, if_neg (by omega)]
theorem look_flag {p h : Nat → Int} {r FV VV AV MV : Int} {H0 HJ FH VH MH : Bool} {j : Nat} (h0 : (H0 || orB (bkS p h r) j) = HJ) (h1 : dotV 30 h (colF p j) (j + 1) = FV) (f1 : dotH 30 h (colF p j) (j + 1) = FH) (h2 : mulV (p (276 + j)) FV 30 = VV) (f2 : mulH (p (276 + j)) FV 30 = VH)
    (h3 : bkA p h r j = AV) (h4 : mulV FV VV 30 = MV) (f4 : mulH FV VV 30 = MH) : (HJ || FH || VH || MH || addH AV MV) = (H0 || orB (bkS p h r) (j + 1)) := by
  have eF : bkF p h j = FV := h1
  have eV : bkV p h j = VV := by rw [← h2, ← eF]; rfl
  have gF : bkFH p h j = FH := f1
  have gV : bkVH p h j = VH := by rw [← f2, ← eF]; rfl
  have gA : bkAH p h r j = (MH || addH AV MV) := by rw [← f4, ← h3, ← h4, ← eV, ← eF]; rfl
  rw [← h0]
  simp only [orB, bkS, gF, gV, gA, Bool.or_assoc]
/-- The row and the factors alone. -/
def knN0 (p : Nat → Int) : Nat → Int := fun x => if x < 300 then p x else 0
/-- What holds in look: the row, and what is known. -/
structure LkR (c : Addr) (h : Bool) (b : Nat) (H N : Nat → Int) (w wr : World) : Prop where
  upd : Upd c h w wr
  rB : Blk wr (w.heap.size + 1) 26 24 H
  nB : Blk wr b 48 373 N
theorem LkR.upd' {c : Addr} {h h' : Bool} {b : Nat} {H N : Nat → Int} {w wr w' : World} (s : LkR c h b H N w wr) (hc : c.block < w.heap.size) (hb : w.heap.size + 1 < b) (u : Upd c h' wr w') : LkR c h' b H N w w' :=
  ⟨s.upd.trans u, s.rB.upd u (by omega), s.nB.upd u (by omega)⟩
theorem LkR.down {c : Addr} {h : Bool} {b : Nat} {H N : Nat → Int} {w wr w' : World} (s : LkR c h b H N w wr) (hb : w.heap.size + 1 < b) (u : Below (b + 1) wr w') : LkR c h b H N w w' :=
  ⟨s.upd.then' (u.mono (by omega)), (u.block _ (by omega)).trans s.rB, (u.block _ (by omega)).trans s.nB⟩
set_option maxHeartbeats 1000000 in
theorem look_any (c : Addr) (h : Bool) (p H : Nat → Int) (r : Int) (w : World) (hc : w.cell? c = some (.bool h)) (hf : w.frozen? c = false) :
    Calls Try.prog 15 #[.pointer (some c), .agg (arrv 300 p), .agg (arrv 24 H), .int .i64 r] w fun e w' =>
      ∃ b, e = .returned (.pointer (some ⟨b, 0, none⟩)) ∧ w.heap.size ≤ b ∧ Upd c (h || lkH p H r) w w' ∧ Blk w' b 48 373 (knN (condF p) (satS H 24) (varV r) 24) := by
  have hcb := World.block_lt_of_cell? w c hc
  have HC := Lib.hid hc
  have HF := Lib.hid hf
  clear hc hf
  go_enter Try.func15, Try.ntmps15
  have P0 : Blk ((w.alloc (.cells (arrv 300 p) 25)).alloc (.cells (arrv 24 H) 26)) w.heap.size 25 300 p := (Blk.new w _ _ _).alloc _
  have R0 : Blk ((w.alloc (.cells (arrv 300 p) 25)).alloc (.cells (arrv 24 H) 26)) (w.heap.size + 1) 26 24 H := Blk.new1 w _ _ _ _
  have U0 : Upd c h w ((w.alloc (.cells (arrv 300 p) 25)).alloc (.cells (arrv 24 H) 26)) := Upd.then (Upd.refl HC.out) (by (repeat (first | with_reducible exact Below.refl _ _ | with_reducible apply Below.drew | (with_reducible refine below_drewN ?_ _) | (with_reducible refine Below.alloc ?_ (by (try simp) <;> omega) _) | (with_reducible refine Below.setCell ?_ (by (try simp) <;> omega) _))))
  have c0 := U0.cellc HC.out
  have f0 := (U0.frozen hcb).trans HF.out
  go_upto_region 2 with (first | (refine wpList_load_row rfl 25 _ rfl w.heap.size rfl 25 _ (0, 0) _ P0 Try.underlying25 rfl (icov.trans (by rw [arrv_size])) ?_) | (go_at_call 28; (refine (cond_any c h p _ c0 f0).mono ?_); rintro e w1 ⟨rfl, hu1⟩; have UH := Lib.hid (U0.trans hu1); have R1 := Lib.hid (R0.upd hu1 (by omega)); clear hu1) | (refine wpList_known rfl _ rfl rfl ?_))
  obtain ⟨b, hb⟩ : ∃ b, w1.heap.size = b := ⟨_, rfl⟩
  have hbw : w.heap.size + 1 < b := by have := R1.out.lt; omega
  have HS : LkR c (h || condH p) b H (knN0 (condF p)) w (w1.alloc (.cells (arrv 373 fun x => if x < 300 then condF p x else 0) 48)) :=
    ⟨UH.out.alloc _, R1.out.alloc _, by rw [← hb]; exact Blk.new w1 _ _ _⟩
  rw [hb]
  generalize w1.alloc (.cells (arrv 373 fun x => if x < 300 then condF p x else 0) 48) = W1 at *
  obtain ⟨N0, hN0⟩ : ∃ N, knN0 (condF p) = N := ⟨_, rfl⟩
  rw [hN0] at HS
  have HS := Lib.hid HS
  have HN0 := Lib.hid hN0
  clear P0 R0 U0 c0 f0 UH R1 hb hN0
  go_wp2_with fail
  go_loopw [19] (fun i wr => ∃ k : Nat, k ≤ 24 ∧ i = .int .i64 k ∧ Hid (LkR c (h || condH p || orB (fun i => satH (H i)) k) b (satS H k) N0 w wr)) (fun i _ => 24 - (intOf i).toNat)
  case atStart =>
    refine ⟨0, by omega, rfl, ?_⟩
    rw [show (h || condH p || orB (fun i => satH (H i)) 0) = (h || condH p) from by simp [orB], show satS H 0 = H from by funext i; simp [satS]]
    exact HS.out
  case round =>
    obtain ⟨k, hk, rfl, R⟩ := hrel
    by_cases hlt : k < 24
    · have d1 : decide ((k : Int) < 24) = true := by simp; omega
      have b0 := R.out.rB.cell (i := k) (by omega)
      rw [show satS H k k = H k from by simp [satS]] at b0
      have rc := R.out.upd.cellc HC.out
      have rf := (R.out.upd.frozen hcb).trans HF.out
      have CC := Lib.hid (sat_any c _ (H k) _ rc rf)
      clear rc rf
      go_wp2_with (go_at_call 24; refine CC.out.mono ?_; rintro e w' ⟨rfl, hw'⟩; have HR2 := Lib.hid (R.out.upd' hcb hbw ((Upd.set c (h || condH p || orB (fun i => satH (H i)) k || satH (H k)) wr).then (by rw [hw']; exact Below.refl _ _))); have c0 := HR2.out.rB.cell (i := k) (by omega); have c1 := HR2.out.rB.free k; clear hw')
      go_roundw
      case rel =>
        refine ⟨k + 1, by omega, by go_num, ?_⟩
        rw [show (h || condH p || orB (fun i => satH (H i)) (k + 1)) = (h || condH p || orB (fun i => satH (H i)) k || satH (H k)) from by simp [orB, Bool.or_assoc]]
        refine ⟨HR2.out.upd.setCell (by simp) _, (HR2.out.rB.set _ _).congr fun i hi => ?_, HR2.out.nB.other (by simp; omega) _⟩
        simp only [Go.Proofs.Ytkllgphhfkoknaa.upd, satS]
        by_cases h1 : i = k
        · subst h1; rw [if_pos rfl, if_pos (by omega)]
        · rw [if_neg h1]; split <;> split <;> first | rfl | omega
      case measure => simp [intOf]; omega
    · have hk24 : k = 24 := by omega
      subst hk24
      obtain ⟨H1, hH1⟩ : ∃ x, (h || condH p || orB (fun i => satH (H i)) 24) = x := ⟨_, rfl⟩
      obtain ⟨H2, hH2⟩ : ∃ x, satS H 24 = x := ⟨_, rfl⟩
      rw [hH1, hH2] at R
      have HH1 := Lib.hid hH1
      have HH2 := Lib.hid hH2
      have rc := R.out.upd.cellc HC.out
      have rf := (R.out.upd.frozen hcb).trans HF.out
      clear hH1 hH2 hlt hk HS
      go_upto_region 7 with fail
      refine wp_region_M (fun _ => True) 7 (by kernel_rfl) ?_ (fun hHeld => ?_)
      · trivial
      refine wpAnyM_take 0 (v := ?_) rfl (by kernel_rfl) (fun _ _ _ h => h) (Or.inl ⟨by rfl, ?_⟩) (by assumption) ?_
      rotate_left
      · (intro wx hSw; (try dsimp only at hSw); go_simp; (try with_reducible rfl))
      (try simp only [Act.put, nA, nB, nC])
      refine wpAnyM_take 1 (v := ?_) rfl (by kernel_rfl) (fun _ _ _ h => h) (Or.inl ⟨by rfl, ?_⟩) (by assumption) ?_
      rotate_left
      · (intro wx hSw; (try dsimp only at hSw); go_simp; (try with_reducible rfl))
      (try simp only [Act.put, nA, nB, nC])
      refine wpAnyM_take 2 (v := ?_) rfl (by kernel_rfl) (fun _ _ _ h => h) (Or.inl ⟨by rfl, ?_⟩) (by assumption) ?_
      rotate_left
      · (intro wx hSw; (try dsimp only at hSw); go_simp; (try with_reducible rfl))
      (try simp only [Act.put, nA, nB, nC])
      refine wpAnyM_takeW 4 (v := ?_) rfl (by kernel_rfl) (fun _ _ _ h => h) (Or.inl ⟨by rfl, ?_⟩) (.inr (by assumption)) ?_
      rotate_left
      · (intro wx hSw; (try dsimp only at hSw); go_simp; (try with_reducible rfl))
      (try simp only [Act.put, nA, nB, nC])
      refine wpAnyM_takeW 5 (v := ?_) rfl (by kernel_rfl) (fun _ _ _ h => h) (Or.inl ⟨by rfl, ?_⟩) (.inr (by assumption)) ?_
      rotate_left
      · (intro wx hSw; (try dsimp only at hSw); go_simp; (try with_reducible rfl))
      (try simp only [Act.put, nA, nB, nC])
      refine wpAnyM_oneS 3 rfl (by kernel_rfl) (fun K hK => ?_)
      go_simp
      (refine (clamp_any c H1 r 1 72057594037927936 wr.drew (by exact rc) (by exact rf)).mono ?_); rintro e w' ⟨rfl, hw'⟩; have HR2 := Lib.hid (R.out.upd' hcb hbw (Upd.after (Below.drew (Below.refl _ _)) ((Upd.set c (H1 || varH r) wr.drew).then (by rw [show varH r = clampH r 1 72057594037927936 from rfl, hw']; exact Below.refl _ _)))); have n0 := HR2.out.nB.cell (i := 348) (by omega); have n1 := HR2.out.nB.free 348; clear hw'
      (try dsimp only)
      (try simp only [Act.put, nA, nB, nC])
      clear hHeld
      refine hK.out _ _ ?_ (fun hHeld => ?_)
      · trivial
      clear hK K
      (try simp only [Act.put, nA, nB, nC])
      refine wpAnyM_take 6 (v := ?_) rfl (by kernel_rfl) (fun _ _ _ h => h) (Or.inl ⟨by rfl, ?_⟩) (by assumption) ?_
      rotate_left
      · (intro wx hSw; (try dsimp only at hSw); go_simp; (try with_reducible rfl))
      (try simp only [Act.put, nA, nB, nC])
      refine wpAnyM_one 7 rfl (by kernel_rfl) (fun K hK => ?_)
      go_simp
      refine hK.out _ _ (.inl (by kernel_rfl)) (fun _ => ?_)
      clear hK K
      (try simp only [Act.put, nA, nB, nC])
      refine wpAnyM_done (by kernel_rfl) ?_ _
      obtain ⟨P, hP⟩ : ∃ x, condF p = x := ⟨_, rfl⟩
      obtain ⟨R', hR'⟩ : ∃ x, varV r = x := ⟨_, rfl⟩
      have HR3 : LkR c (H1 || varH r) b H2 (knN P H2 R' 0) w (w'.setCell ⟨b, 348, none⟩ (.int .i64 (clampV r 1 72057594037927936))) := by
        refine ⟨HR2.out.upd.setCell (by simp; omega) _, HR2.out.rB.other (by simp; omega) _, (HR2.out.nB.set 348 _).congr fun i hi => ?_⟩
        rw [show clampV r 1 72057594037927936 = R' from hR', ← HN0.out, hP]
        simp only [Go.Proofs.Ytkllgphhfkoknaa.upd, knN, knN0]
        by_cases h1 : i = 348
        · subst h1; rw [if_pos rfl, if_neg (by omega), if_neg (by omega), if_neg (by omega), if_pos (by omega)]; rfl
        · rw [if_neg h1]
          by_cases h2 : i < 300
          · rw [if_pos h2, if_pos h2]
          · rw [if_neg h2, if_neg h2]
            by_cases h3 : i < 324
            · rw [if_pos h3, if_neg (by omega)]
            · rw [if_neg h3]
              by_cases h4 : i < 348
              · rw [if_pos h4, if_neg (by omega)]
              · rw [if_neg h4, if_neg (by omega)]
      generalize w'.setCell ⟨b, 348, none⟩ (.int .i64 (clampV r 1 72057594037927936)) = W3 at *
      have HR3 := Lib.hid HR3
      have HP := Lib.hid hP
      have HR' := Lib.hid hR'
      clear HR2 n0 n1 R rc rf hP hR'
      try clear hHeld
      go_wp2_with fail
      go_loopw [37] (fun i wr => ∃ j : Nat, j ≤ 24 ∧ i = .int .i64 j ∧ Hid (LkR c (H1 || varH r || orB (bkS P H2 R') j) b H2 (knN P H2 R' j) w wr)) (fun i _ => 24 - (intOf i).toNat)
      case atStart =>
        refine ⟨0, by omega, rfl, ?_⟩
        rw [show (H1 || varH r || orB (bkS P H2 R') 0) = (H1 || varH r) from by simp [orB]]
        exact HR3.out
      case round =>
        obtain ⟨j, hj, rfl, R⟩ := hrel
        by_cases hlt : j < 24
        · have d1 : decide ((j : Int) < 24) = true := by simp; omega
          go_upto_region 13 with fail
          have eP : arrv 300 (fun i => knN P H2 R' j (0 + i)) = arrv 300 P := arrv_congr fun i hi => by
            simp only [knN]; rw [if_pos (by omega), Nat.zero_add]
          go_loopw [12, 42] (fun u i wq => ∃ q : Nat, q ≤ j + 1 ∧ i = .int .i64 q ∧ Hid (LkR c (H1 || varH r || orB (bkS P H2 R') j) b H2 (knN P H2 R' j) w wq ∧ Own wq (b + 1) 2 u q (colF P j))) (fun _ i _ => j + 1 - (intOf i).toNat)
          case atStart =>
            exact ⟨0, by omega, rfl, R.out, Own.nil _ _ _ _⟩
          case round =>
            obtain ⟨q, hq, rfl, S⟩ := hrel
            by_cases hql : q < j + 1
            · have d2 : decide ((q : Int) < (j : Int) + 1) = true := by simp; omega
              have NB := S.out.1.nB
              have O1 := Lib.hid S.out.2
              have L1 := Lib.hid S.out.1
              have hbl := NB.lt
              clear S R
              go_wp2_with (first | (refine wpList_load_sub rfl 25 (.tmp 48) rfl b 0 300 rfl NB (by omega) _ Try.underlying25 rfl icov ?_; rw [eP]) | (go_at_call 17; (refine (u_any P q j _ (by omega) hlt).mono ?_); rintro e w2 ⟨rfl, hb2⟩; have HB2 := Lib.hid hb2; have hz2 := hb2.size; clear hb2) | (refine wpList_app1 rfl (.tmp 45) (.tmp 53) rfl (b + 1) rfl ((O1.out.below HB2.out).alloc _) w2.heap.size 1 (uV P q j) rfl (by simp [go_sem]) (by omega) (by simp; omega) (w2.heap.size + 1) (by simp) ?_; intro g1 cp1 w3 hO1 hg1 hat1 hlt1; have HO1 := Lib.hid hO1; have HG1 := Lib.hid hg1; clear hO1 hg1 hat1))
              have hA2 : Below wr.heap.size wr (w2.alloc (.cells #[.int .i64 (uV P q j)] 2)) := HB2.out.alloc hz2 _
              have hG : Below (b + 1) wr w3 := below_grown (hA2.mono (by omega)) HG1.out (fun k hk => (ownBlock_lt O1.out hk).1) (by simp; omega)
              go_roundw
              case rel =>
                refine ⟨q + 1, by omega, by go_num, L1.out.down hbw hG, HO1.out.congr (snoc_fun (n := q) (L := colF P j) (by simp [colF]; omega))⟩
              case measure => simp [intOf]; omega
            · have hqj : q = j + 1 := by omega
              subst hqj
              have d2 : decide (((j + 1 : Nat) : Int) < (j : Int) + 1) = false := by simp
              obtain ⟨g, cu, rfl, hBg, hlg, hcu⟩ := S.out.2.slc (by omega)
              obtain ⟨HJ, hHJ⟩ : ∃ x, (H1 || varH r || orB (bkS P H2 R') j) = x := ⟨_, rfl⟩
              obtain ⟨FV, hFV⟩ : ∃ x, dotV 30 H2 (colF P j) (j + 1) = x := ⟨_, rfl⟩
              obtain ⟨FH, hFH⟩ : ∃ x, dotH 30 H2 (colF P j) (j + 1) = x := ⟨_, rfl⟩
              obtain ⟨VV, hVV⟩ : ∃ x, mulV (P (276 + j)) FV 30 = x := ⟨_, rfl⟩
              obtain ⟨VH, hVH⟩ : ∃ x, mulH (P (276 + j)) FV 30 = x := ⟨_, rfl⟩
              obtain ⟨AV, hAV⟩ : ∃ x, bkA P H2 R' j = x := ⟨_, rfl⟩
              obtain ⟨MV, hMV⟩ : ∃ x, mulV FV VV 30 = x := ⟨_, rfl⟩
              obtain ⟨MH, hMH⟩ : ∃ x, mulH FV VV 30 = x := ⟨_, rfl⟩
              have L1 := Lib.hid S.out.1
              have rc := L1.out.upd.cellc HC.out
              have rf := (L1.out.upd.frozen hcb).trans HF.out
              have hcH : ∀ i, i < j + 1 → wr.cell? ⟨w.heap.size + 1, 0 + i, none⟩ = some (.int .i64 (H2 i)) := fun i hi => by rw [Nat.zero_add]; exact L1.out.rB.cell (by omega)
              have DC := Lib.hid (dot_any c _ 30 H2 (colF P j) (w.heap.size + 1) 0 24 g 0 cu (j + 1) wr.drew (by exact rc) (by exact rf) (by decide) (by decide) (by omega) (by exact hcH) (by exact hcu))
              rw [hFV, hFH, hHJ] at DC
              rw [hHJ] at L1
              have HHJ := Lib.hid hHJ
              have HFV := Lib.hid hFV
              have HFH := Lib.hid hFH
              have HVV := Lib.hid hVV
              have HVH := Lib.hid hVH
              have HAV := Lib.hid hAV
              have HMV := Lib.hid hMV
              have HMH := Lib.hid hMH
              clear S R hcH hcu hHJ hFV hFH hVV hVH hAV hMV hMH rc rf HR3 hBg hlg
              go_upto_region 17 with fail
              refine wp_region_M (fun _ => True) 11 (by kernel_rfl) ?_ (fun hHeld => ?_)
              · trivial
              refine wpAnyM_take 0 (v := ?_) rfl (by kernel_rfl) (fun _ _ _ h => h) (Or.inl ⟨by rfl, ?_⟩) (by assumption) ?_
              rotate_left
              · (intro wx hSw; (try dsimp only at hSw); go_simp; (try with_reducible rfl))
              (try simp only [Act.put, nA, nB, nC])
              refine wpAnyM_take 1 (v := ?_) rfl (by kernel_rfl) (fun _ _ _ h => h) (Or.inl ⟨by rfl, ?_⟩) (by assumption) ?_
              rotate_left
              · (intro wx hSw; (try dsimp only at hSw); go_simp; (try with_reducible rfl))
              (try simp only [Act.put, nA, nB, nC])
              refine wpAnyM_take 2 (v := ?_) rfl (by kernel_rfl) (fun _ _ _ h => h) (Or.inl ⟨by rfl, ?_⟩) (by assumption) ?_
              rotate_left
              · (intro wx hSw; (try dsimp only at hSw); go_simp; (try with_reducible rfl))
              (try simp only [Act.put, nA, nB, nC])
              refine wpAnyM_take 3 (v := ?_) rfl (by kernel_rfl) (fun _ _ _ h => h) (Or.inl ⟨by rfl, ?_⟩) (by assumption) ?_
              rotate_left
              · (intro wx hSw; (try dsimp only at hSw); go_simp; (try with_reducible rfl))
              (try simp only [Act.put, nA, nB, nC])
              refine wpAnyM_take 4 (v := ?_) rfl (by kernel_rfl) (fun _ _ _ h => h) (Or.inl ⟨by rfl, ?_⟩) (by assumption) ?_
              rotate_left
              · (intro wx hSw; (try dsimp only at hSw); go_simp; (try with_reducible rfl))
              (try simp only [Act.put, nA, nB, nC])
              refine wpAnyM_take 5 (v := ?_) rfl (by kernel_rfl) (fun _ _ _ h => h) (Or.inl ⟨by rfl, ?_⟩) (by assumption) ?_
              rotate_left
              · (intro wx hSw; refine Eq.trans (run_slice_row (.tmp 6) (.tmp 60) (by rfl) (w.heap.size + 1) (by rfl) _ (by rfl) (j + 1) (by first | (simp; done) | (rw [IntWalk.i64_in _ (by omega)]; simp)) (by omega)) ?_; with_reducible rfl)
              (try simp only [Act.put, nA, nB, nC])
              refine wpAnyM_take 6 (v := ?_) rfl (by kernel_rfl) (fun _ _ _ h => h) (Or.inl ⟨by rfl, ?_⟩) (by assumption) ?_
              rotate_left
              · (intro wx hSw; (try dsimp only at hSw); go_simp; (try with_reducible rfl))
              (try simp only [Act.put, nA, nB, nC])
              refine wpAnyM_takeW 8 (v := ?_) rfl (by kernel_rfl) (fun _ _ _ h => h) (Or.inl ⟨by rfl, ?_⟩) (.inr (by assumption)) ?_
              rotate_left
              · (intro wx hSw; (try dsimp only at hSw); go_simp; (try with_reducible rfl))
              (try simp only [Act.put, nA, nB, nC])
              refine wpAnyM_takeW 9 (v := ?_) rfl (by kernel_rfl) (fun _ _ _ h => h) (Or.inl ⟨by rfl, ?_⟩) (.inr (by assumption)) ?_
              rotate_left
              · (intro wx hSw; (try dsimp only at hSw); go_simp; (try with_reducible rfl))
              (try simp only [Act.put, nA, nB, nC])
              refine wpAnyM_oneS 7 rfl (by kernel_rfl) (fun K hK => ?_)
              go_simp
              (refine DC.out.mono ?_); rintro e w5 ⟨rfl, hu5⟩; have L5 := Lib.hid (L1.out.upd' hcb hbw (Upd.after (Below.drew (Below.refl _ _)) hu5)); have n0 := L5.out.nB.cell (i := 300 + j) (by omega); have n1 := L5.out.nB.free (300 + j); clear hu5
              (try dsimp only)
              (try simp only [Act.put, nA, nB, nC])
              clear hHeld
              refine hK.out _ _ ?_ (fun hHeld => ?_)
              · trivial
              clear hK K
              (try simp only [Act.put, nA, nB, nC])
              refine wpAnyM_take 10 (v := ?_) rfl (by kernel_rfl) (fun _ _ _ h => h) (Or.inl ⟨by rfl, ?_⟩) (by assumption) ?_
              rotate_left
              · (intro wx hSw; (try dsimp only at hSw); go_simp; (first | rw [if_pos (by omega)] | rw [if_pos ⟨by omega, by omega⟩] | skip); (try with_reducible rfl))
              (try simp only [Act.put, nA, nB, nC])
              refine wpAnyM_one 11 rfl (by kernel_rfl) (fun K hK => ?_)
              go_simp
              refine hK.out _ _ (.inl (by kernel_rfl)) (fun _ => ?_)
              clear hK K
              (try simp only [Act.put, nA, nB, nC])
              refine wpAnyM_done (by kernel_rfl) ?_ _
              obtain ⟨N1, hN1⟩ : ∃ x, Go.Proofs.Ytkllgphhfkoknaa.upd (knN P H2 R' j) (300 + j) FV = x := ⟨_, rfl⟩
              have L6 : LkR c (HJ || FH) b H2 N1 w (w5.setCell ⟨b, 300 + j, none⟩ (.int .i64 FV)) := ⟨L5.out.upd.setCell (by simp; omega) _, L5.out.rB.other (by simp; omega) _, by rw [← hN1]; exact L5.out.nB.set _ _⟩
              generalize w5.setCell ⟨b, 300 + j, none⟩ (.int .i64 FV) = W6 at *
              have m0 := L6.nB.cell (i := 276 + j) (by omega)
              have m1 := L6.nB.cell (i := 300 + j) (by omega)
              rw [← hN1, knN_D hlt] at m0
              rw [← hN1, upd_same] at m1
              have rc := L6.upd.cellc HC.out
              have rf := (L6.upd.frozen hcb).trans HF.out
              have MC := Lib.hid (fmul_any c _ (P (276 + j)) FV 30 W6.drew (by exact rc) (by exact rf))
              rw [HVV.out, HVH.out] at MC
              have HN1 := Lib.hid hN1
              have HL6 := Lib.hid L6
              clear n0 n1 L5 DC L1 hN1 L6 rc rf
              go_upto_region 18 with fail
              refine wp_region_M (fun w' => w'.cell? ⟨b, 276 + j, none⟩ = some (.int .i64 (P (276 + j))) ∧ w'.cell? ⟨b, 300 + j, none⟩ = some (.int .i64 FV)) 20 (by kernel_rfl) ?_ (fun hHeld => ?_)
              · exact ⟨m0, m1⟩
              refine wpAnyM_take 0 (v := ?_) rfl (by kernel_rfl) (fun _ _ _ h => h) (Or.inl ⟨by rfl, ?_⟩) (by assumption) ?_
              rotate_left
              · (intro wx hSw; (try dsimp only at hSw); go_simp; (try with_reducible rfl))
              (try simp only [Act.put, nA, nB, nC])
              refine wpAnyM_take 1 (v := ?_) rfl (by kernel_rfl) (fun _ _ _ h => h) (Or.inl ⟨by rfl, ?_⟩) (by assumption) ?_
              rotate_left
              · (intro wx hSw; (try dsimp only at hSw); go_simp; (try with_reducible rfl))
              (try simp only [Act.put, nA, nB, nC])
              refine wpAnyM_take 2 (v := ?_) rfl (by kernel_rfl) (fun _ _ _ h => h) (Or.inl ⟨by rfl, ?_⟩) (by assumption) ?_
              rotate_left
              · (intro wx hSw; (try dsimp only at hSw); go_simp; (try with_reducible rfl))
              (try simp only [Act.put, nA, nB, nC])
              refine wpAnyM_take 3 (v := ?_) rfl (by kernel_rfl) (fun _ _ _ h => h) (Or.inl ⟨by rfl, ?_⟩) (by assumption) ?_
              rotate_left
              · (intro wx hSw; (try dsimp only at hSw); go_simp; (try with_reducible rfl))
              (try simp only [Act.put, nA, nB, nC])
              refine wpAnyM_take 4 (v := ?_) rfl (by kernel_rfl) (fun _ _ _ h => h) (Or.inl ⟨by rfl, ?_⟩) (by assumption) ?_
              rotate_left
              · (intro wx hSw; (try dsimp only at hSw); go_simp; (try with_reducible rfl))
              (try simp only [Act.put, nA, nB, nC])
              refine wpAnyM_take 5 (v := ?_) rfl (by kernel_rfl) (fun _ _ _ h => h) (Or.inl ⟨by rfl, ?_⟩) (by assumption) ?_
              rotate_left
              · (intro wx hSw; (try dsimp only at hSw); go_simp; (try with_reducible rfl))
              (try simp only [Act.put, nA, nB, nC])
              refine wpAnyM_take 6 (v := ?_) rfl (by kernel_rfl) (fun _ _ _ h => h) (Or.inl ⟨by rfl, ?_⟩) (by assumption) ?_
              rotate_left
              · (intro wx hSw; (try dsimp only at hSw); go_simp; (try with_reducible rfl))
              (try simp only [Act.put, nA, nB, nC])
              refine wpAnyM_take 7 (v := ?_) rfl (by kernel_rfl) (fun _ _ _ h => h) (Or.inl ⟨by rfl, ?_⟩) (by assumption) ?_
              rotate_left
              · (intro wx hSw; (try dsimp only at hSw); go_simp; (try with_reducible rfl))
              (try simp only [Act.put, nA, nB, nC])
              refine wpAnyM_take 8 (v := ?_) rfl (by kernel_rfl) (fun _ _ _ h => h) (Or.inl ⟨by rfl, ?_⟩) (by assumption) ?_
              rotate_left
              · (intro wx hSw; (try dsimp only at hSw); go_simp; (first | rw [if_pos (by omega)] | rw [if_pos ⟨by omega, by omega⟩] | skip); (try with_reducible rfl))
              (try simp only [Act.put, nA, nB, nC])
              refine wpAnyM_take 9 (v := ?_) rfl (by kernel_rfl) (fun _ _ _ h => h) (Or.inl ⟨by rfl, ?_⟩) (by assumption) ?_
              rotate_left
              · (intro wx hSw; (try dsimp only at hSw); go_simp; (try with_reducible rfl))
              (try simp only [Act.put, nA, nB, nC])
              refine wpAnyM_take 10 (v := ?_) rfl (by kernel_rfl) (fun _ _ _ h => h) (Or.inl ⟨by rfl, ?_⟩) (by assumption) ?_
              rotate_left
              · (intro wx hSw; (try dsimp only at hSw); go_simp; (try with_reducible rfl))
              (try simp only [Act.put, nA, nB, nC])
              refine wpAnyM_take 11 (v := ?_) rfl (by kernel_rfl) (fun _ _ _ h => h) (Or.inl ⟨by rfl, ?_⟩) (by assumption) ?_
              rotate_left
              · (intro wx hSw; (try dsimp only at hSw); go_simp; (try with_reducible rfl))
              (try simp only [Act.put, nA, nB, nC])
              refine wpAnyM_take 12 (v := ?_) rfl (by kernel_rfl) (fun _ _ _ h => h) (Or.inl ⟨by rfl, ?_⟩) (by assumption) ?_
              rotate_left
              · (intro wx hSw; (try dsimp only at hSw); go_simp; (try with_reducible rfl))
              (try simp only [Act.put, nA, nB, nC])
              refine wpAnyM_take 13 (v := ?_) rfl (by kernel_rfl) (fun _ _ _ h => h) (Or.inl ⟨by rfl, ?_⟩) (by assumption) ?_
              rotate_left
              · (intro wx hSw; (try dsimp only at hSw); go_simp; (try with_reducible rfl))
              (try simp only [Act.put, nA, nB, nC])
              refine wpAnyM_take 14 (v := ?_) rfl (by kernel_rfl) (fun _ _ _ h => h) (Or.inl ⟨by rfl, ?_⟩) (by assumption) ?_
              rotate_left
              · (intro wx hSw; (try dsimp only at hSw); go_simp; (first | rw [if_pos (by omega)] | rw [if_pos ⟨by omega, by omega⟩] | skip); (try with_reducible rfl))
              (try simp only [Act.put, nA, nB, nC])
              refine wpAnyM_take 15 (v := ?_) rfl (by kernel_rfl) (fun _ _ _ h => h) (Or.inl ⟨by rfl, ?_⟩) (by assumption) ?_
              rotate_left
              · (intro wx hSw; (try dsimp only at hSw); go_simp; (try with_reducible rfl))
              (try simp only [Act.put, nA, nB, nC])
              refine wpAnyM_takeW 17 (v := ?_) rfl (by kernel_rfl) (fun _ _ _ h => h) (Or.inl ⟨by rfl, ?_⟩) (.inr (by assumption)) ?_
              rotate_left
              · (intro wx hSw; (try dsimp only at hSw); go_simp; (try with_reducible rfl))
              (try simp only [Act.put, nA, nB, nC])
              refine wpAnyM_takeW 18 (v := ?_) rfl (by kernel_rfl) (fun _ _ _ h => h) (Or.inl ⟨by rfl, ?_⟩) (.inr (by assumption)) ?_
              rotate_left
              · (intro wx hSw; (try dsimp only at hSw); go_simp; (try with_reducible rfl))
              (try simp only [Act.put, nA, nB, nC])
              refine wpAnyM_oneS 16 rfl (by kernel_rfl) (fun K hK => ?_)
              go_simp
              (refine MC.out.mono ?_); rintro e w7 ⟨rfl, hu7⟩; have L7 := Lib.hid (HL6.out.upd' hcb hbw (Upd.after (Below.drew (Below.refl _ _)) hu7)); have m0' := L7.out.nB.cell (i := 276 + j) (by omega); have m1' := L7.out.nB.cell (i := 300 + j) (by omega); (rw [← HN1.out, knN_D hlt] at m0'); (rw [← HN1.out, upd_same] at m1'); have n0 := L7.out.nB.cell (i := 324 + j) (by omega); have n1 := L7.out.nB.free (324 + j); clear hu7 m0 m1
              (try dsimp only)
              (try simp only [Act.put, nA, nB, nC])
              clear hHeld
              refine hK.out _ _ ?_ (fun hHeld => ?_)
              · exact ⟨m0', m1'⟩
              clear hK K
              (try simp only [Act.put, nA, nB, nC])
              refine wpAnyM_take 19 (v := ?_) rfl (by kernel_rfl) (fun _ _ _ h => h) (Or.inl ⟨by rfl, ?_⟩) (by assumption) ?_
              rotate_left
              · (intro wx hSw; (try dsimp only at hSw); go_simp; (first | rw [if_pos (by omega)] | rw [if_pos ⟨by omega, by omega⟩] | skip); (try with_reducible rfl))
              (try simp only [Act.put, nA, nB, nC])
              refine wpAnyM_one 20 rfl (by kernel_rfl) (fun K hK => ?_)
              go_simp
              refine hK.out _ _ (.inl (by kernel_rfl)) (fun _ => ?_)
              clear hK K
              (try simp only [Act.put, nA, nB, nC])
              refine wpAnyM_done (by kernel_rfl) ?_ _
              obtain ⟨N2, hN2⟩ : ∃ x, Go.Proofs.Ytkllgphhfkoknaa.upd N1 (324 + j) VV = x := ⟨_, rfl⟩
              have L8 : LkR c (HJ || FH || VH) b H2 N2 w (w7.setCell ⟨b, 324 + j, none⟩ (.int .i64 VV)) := ⟨L7.out.upd.setCell (by simp; omega) _, L7.out.rB.other (by simp; omega) _, by rw [← hN2]; exact L7.out.nB.set _ _⟩
              generalize w7.setCell ⟨b, 324 + j, none⟩ (.int .i64 VV) = W8 at *
              have a0 := L8.nB.cell (i := 348 + j) (by omega)
              have a1 := L8.nB.cell (i := 300 + j) (by omega)
              have a2 := L8.nB.cell (i := 324 + j) (by omega)
              rw [← hN2, ← HN1.out, knN_A hlt, HAV.out] at a0
              rw [← hN2, upd_other (by omega), ← HN1.out, upd_same] at a1
              rw [← hN2, upd_same] at a2
              have rc := L8.upd.cellc HC.out
              have rf := (L8.upd.frozen hcb).trans HF.out
              have MC2 := Lib.hid (fmul_any c _ FV VV 30 W8.drew (by exact rc) (by exact rf))
              rw [HMV.out, HMH.out] at MC2
              have HN2 := Lib.hid hN2
              have HL8 := Lib.hid L8
              clear n0 n1 L7 MC HL6 hN2 L8 rc rf m0' m1'
              have kj := Lib.hid (show IntKind.i64.wrap ((j : Int) + 1) = ((j + 1 : Nat) : Int) from by rw [IntWalk.i64_in _ (by omega)]; simp)
              go_upto_region 19 with fail
              refine wp_region_M (fun w' => w'.cell? ⟨b, 348 + j, none⟩ = some (.int .i64 AV) ∧ w'.cell? ⟨b, 300 + j, none⟩ = some (.int .i64 FV) ∧ w'.cell? ⟨b, 324 + j, none⟩ = some (.int .i64 VV)) 29 (by kernel_rfl) ?_ (fun hHeld => ?_)
              · exact ⟨a0, a1, a2⟩
              refine wpAnyM_take 0 (v := ?_) rfl (by kernel_rfl) (fun _ _ _ h => h) (Or.inl ⟨by rfl, ?_⟩) (by assumption) ?_
              rotate_left
              · (intro wx hSw; (try dsimp only at hSw); go_simp; (try with_reducible rfl))
              (try simp only [Act.put, nA, nB, nC])
              refine wpAnyM_take 1 (v := ?_) rfl (by kernel_rfl) (fun _ _ _ h => h) (Or.inl ⟨by rfl, ?_⟩) (by assumption) ?_
              rotate_left
              · (intro wx hSw; (try dsimp only at hSw); go_simp; (try with_reducible rfl))
              (try simp only [Act.put, nA, nB, nC])
              refine wpAnyM_take 2 (v := ?_) rfl (by kernel_rfl) (fun _ _ _ h => h) (Or.inl ⟨by rfl, ?_⟩) (by assumption) ?_
              rotate_left
              · (intro wx hSw; (try dsimp only at hSw); go_simp; (try with_reducible rfl))
              (try simp only [Act.put, nA, nB, nC])
              refine wpAnyM_take 3 (v := ?_) rfl (by kernel_rfl) (fun _ _ _ h => h) (Or.inl ⟨by rfl, ?_⟩) (by assumption) ?_
              rotate_left
              · (intro wx hSw; (try dsimp only at hSw); go_simp; (try with_reducible rfl))
              (try simp only [Act.put, nA, nB, nC])
              refine wpAnyM_take 4 (v := ?_) rfl (by kernel_rfl) (fun _ _ _ h => h) (Or.inl ⟨by rfl, ?_⟩) (by assumption) ?_
              rotate_left
              · (intro wx hSw; (try dsimp only at hSw); go_simp; (try with_reducible rfl))
              (try simp only [Act.put, nA, nB, nC])
              refine wpAnyM_take 5 (v := ?_) rfl (by kernel_rfl) (fun _ _ _ h => h) (Or.inl ⟨by rfl, ?_⟩) (by assumption) ?_
              rotate_left
              · (intro wx hSw; (try dsimp only at hSw); go_simp; (try with_reducible rfl))
              (try simp only [Act.put, nA, nB, nC])
              refine wpAnyM_take 6 (v := ?_) rfl (by kernel_rfl) (fun _ _ _ h => h) (Or.inl ⟨by rfl, ?_⟩) (by assumption) ?_
              rotate_left
              · (intro wx hSw; (try dsimp only at hSw); go_simp; (try with_reducible rfl))
              (try simp only [Act.put, nA, nB, nC])
              refine wpAnyM_take 7 (v := ?_) rfl (by kernel_rfl) (fun _ _ _ h => h) (Or.inl ⟨by rfl, ?_⟩) (by assumption) ?_
              rotate_left
              · (intro wx hSw; (try dsimp only at hSw); go_simp; (try with_reducible rfl))
              (try simp only [Act.put, nA, nB, nC])
              refine wpAnyM_take 8 (v := ?_) rfl (by kernel_rfl) (fun _ _ _ h => h) (Or.inl ⟨by rfl, ?_⟩) (by assumption) ?_
              rotate_left
              · (intro wx hSw; (try dsimp only at hSw); go_simp; (first | rw [if_pos (by omega)] | rw [if_pos ⟨by omega, by omega⟩] | skip); (try with_reducible rfl))
              (try simp only [Act.put, nA, nB, nC])
              refine wpAnyM_take 9 (v := ?_) rfl (by kernel_rfl) (fun _ _ _ h => h) (Or.inl ⟨by rfl, ?_⟩) (by assumption) ?_
              rotate_left
              · (intro wx hSw; (try dsimp only at hSw); go_simp; (try with_reducible rfl))
              (try simp only [Act.put, nA, nB, nC])
              refine wpAnyM_take 10 (v := ?_) rfl (by kernel_rfl) (fun _ _ _ h => h) (Or.inl ⟨by rfl, ?_⟩) (by assumption) ?_
              rotate_left
              · (intro wx hSw; (try dsimp only at hSw); go_simp; (try with_reducible rfl))
              (try simp only [Act.put, nA, nB, nC])
              refine wpAnyM_take 11 (v := ?_) rfl (by kernel_rfl) (fun _ _ _ h => h) (Or.inl ⟨by rfl, ?_⟩) (by assumption) ?_
              rotate_left
              · (intro wx hSw; (try dsimp only at hSw); go_simp; (try with_reducible rfl))
              (try simp only [Act.put, nA, nB, nC])
              refine wpAnyM_take 12 (v := ?_) rfl (by kernel_rfl) (fun _ _ _ h => h) (Or.inl ⟨by rfl, ?_⟩) (by assumption) ?_
              rotate_left
              · (intro wx hSw; (try dsimp only at hSw); go_simp; (try with_reducible rfl))
              (try simp only [Act.put, nA, nB, nC])
              refine wpAnyM_take 13 (v := ?_) rfl (by kernel_rfl) (fun _ _ _ h => h) (Or.inl ⟨by rfl, ?_⟩) (by assumption) ?_
              rotate_left
              · (intro wx hSw; (try dsimp only at hSw); go_simp; (try with_reducible rfl))
              (try simp only [Act.put, nA, nB, nC])
              refine wpAnyM_take 14 (v := ?_) rfl (by kernel_rfl) (fun _ _ _ h => h) (Or.inl ⟨by rfl, ?_⟩) (by assumption) ?_
              rotate_left
              · (intro wx hSw; (try dsimp only at hSw); go_simp; (try with_reducible rfl))
              (try simp only [Act.put, nA, nB, nC])
              refine wpAnyM_take 15 (v := ?_) rfl (by kernel_rfl) (fun _ _ _ h => h) (Or.inl ⟨by rfl, ?_⟩) (by assumption) ?_
              rotate_left
              · (intro wx hSw; (try dsimp only at hSw); go_simp; (first | rw [if_pos (by omega)] | rw [if_pos ⟨by omega, by omega⟩] | skip); (try with_reducible rfl))
              (try simp only [Act.put, nA, nB, nC])
              refine wpAnyM_take 16 (v := ?_) rfl (by kernel_rfl) (fun _ _ _ h => h) (Or.inl ⟨by rfl, ?_⟩) (by assumption) ?_
              rotate_left
              · (intro wx hSw; (try dsimp only at hSw); go_simp; (try with_reducible rfl))
              (try simp only [Act.put, nA, nB, nC])
              refine wpAnyM_take 17 (v := ?_) rfl (by kernel_rfl) (fun _ _ _ h => h) (Or.inl ⟨by rfl, ?_⟩) (by assumption) ?_
              rotate_left
              · (intro wx hSw; (try dsimp only at hSw); go_simp; (try with_reducible rfl))
              (try simp only [Act.put, nA, nB, nC])
              refine wpAnyM_take 18 (v := ?_) rfl (by kernel_rfl) (fun _ _ _ h => h) (Or.inl ⟨by rfl, ?_⟩) (by assumption) ?_
              rotate_left
              · (intro wx hSw; (try dsimp only at hSw); go_simp; (try with_reducible rfl))
              (try simp only [Act.put, nA, nB, nC])
              refine wpAnyM_take 19 (v := ?_) rfl (by kernel_rfl) (fun _ _ _ h => h) (Or.inl ⟨by rfl, ?_⟩) (by assumption) ?_
              rotate_left
              · (intro wx hSw; (try dsimp only at hSw); go_simp; (try with_reducible rfl))
              (try simp only [Act.put, nA, nB, nC])
              refine wpAnyM_take 20 (v := ?_) rfl (by kernel_rfl) (fun _ _ _ h => h) (Or.inl ⟨by rfl, ?_⟩) (by assumption) ?_
              rotate_left
              · (intro wx hSw; (try dsimp only at hSw); go_simp; (try with_reducible rfl))
              (try simp only [Act.put, nA, nB, nC])
              refine wpAnyM_take 21 (v := ?_) rfl (by kernel_rfl) (fun _ _ _ h => h) (Or.inl ⟨by rfl, ?_⟩) (by assumption) ?_
              rotate_left
              · (intro wx hSw; (try dsimp only at hSw); go_simp; (first | rw [if_pos (by omega)] | rw [if_pos ⟨by omega, by omega⟩] | skip); (try with_reducible rfl))
              (try simp only [Act.put, nA, nB, nC])
              refine wpAnyM_take 22 (v := ?_) rfl (by kernel_rfl) (fun _ _ _ h => h) (Or.inl ⟨by rfl, ?_⟩) (by assumption) ?_
              rotate_left
              · (intro wx hSw; (try dsimp only at hSw); go_simp; (try with_reducible rfl))
              (try simp only [Act.put, nA, nB, nC])
              refine wpAnyM_takeW 26 (v := ?_) rfl (by kernel_rfl) (fun _ _ _ h => h) (Or.inl ⟨by rfl, ?_⟩) (.inr (by assumption)) ?_
              rotate_left
              · (intro wx hSw; (try dsimp only at hSw); go_simp; (try with_reducible rfl))
              (try simp only [Act.put, nA, nB, nC])
              refine wpAnyM_takeW 27 (v := ?_) rfl (by kernel_rfl) (fun _ _ _ h => h) (Or.inl ⟨by rfl, ?_⟩) (.inr (by assumption)) ?_
              rotate_left
              · (intro wx hSw; (try dsimp only at hSw); go_simp; (try with_reducible rfl))
              (try simp only [Act.put, nA, nB, nC])
              refine wpAnyM_oneS 23 rfl (by kernel_rfl) (fun K hK => ?_)
              go_simp
              (refine MC2.out.mono ?_); rintro e w9 ⟨rfl, hu9⟩; have L9 := Lib.hid (HL8.out.upd' hcb hbw (Upd.after (Below.drew (Below.refl _ _)) hu9)); have hz9 := L9.out.nB.lt; clear hu9 a0 a1 a2
              (try dsimp only)
              (try simp only [Act.put, nA, nB, nC])
              clear hHeld
              refine hK.out _ _ ?_ (fun hHeld => ?_)
              · exact look_keep HN1.out HN2.out HAV.out hlt L9.out.nB
              clear hK K
              (try simp only [Act.put, nA, nB, nC])
              refine wpAnyM_oneS 24 rfl (by kernel_rfl) (fun K hK => ?_)
              go_simp
              clear hHeld
              refine hK.out _ _ ?_ (fun hHeld => ?_)
              · exact look_keep HN1.out HN2.out HAV.out hlt (L9.out.nB.alloc _)
              clear hK K
              (try simp only [Act.put, nA, nB, nC])
              refine wpAnyM_oneS 25 rfl (by kernel_rfl) (fun K hK => ?_)
              go_simp
              have L9' := L9.out.down hbw ((Below.refl (b + 1) w9).alloc (by omega) (.cells #[.int .i64 AV, .int .i64 MV] 2)); (refine (fadd_any c _ (two AV MV) w9.heap.size 0 2 2 _ (L9'.upd.cellc HC.out) ((L9'.upd.frozen hcb).trans HF.out) (by decide) (by intro i hi; obtain rfl | rfl : i = 0 ∨ i = 1 := (by omega); simp [go_sem, two]; simp [go_sem, two])).mono ?_); (rw [(add2 AV MV true).1, (add2 AV MV _).2]); rintro e w10 ⟨rfl, hu10⟩; have L10 := Lib.hid (L9'.upd' hcb hbw hu10); have n0 := L10.out.nB.cell (i := 348 + (j + 1)) (by omega); have n1 := L10.out.nB.free (348 + (j + 1)); clear hu10 L9'
              (try dsimp only)
              (try simp only [Act.put, nA, nB, nC])
              clear hHeld
              refine hK.out _ _ ?_ (fun hHeld => ?_)
              · exact look_keep HN1.out HN2.out HAV.out hlt L10.out.nB
              clear hK K
              (try simp only [Act.put, nA, nB, nC])
              refine wpAnyM_take 28 (v := ?_) rfl (by kernel_rfl) (fun _ _ _ h => h) (Or.inl ⟨by rfl, ?_⟩) (by assumption) ?_
              rotate_left
              · (intro wx hSw; (try dsimp only at hSw); go_simp; (try simp only [kj.out, Int.toNat_natCast]); rw [if_pos (show (0 : Int) ≤ ((j + 1 : Nat) : Int) ∧ ((j + 1 : Nat) : Int) < 25 from ⟨by omega, by omega⟩)]; (try with_reducible rfl))
              (try simp only [Act.put, nA, nB, nC])
              refine wpAnyM_one 29 rfl (by kernel_rfl) (fun K hK => ?_)
              go_simp
              refine hK.out _ _ (.inl (by kernel_rfl)) (fun _ => ?_)
              clear hK K
              (try simp only [Act.put, nA, nB, nC])
              refine wpAnyM_done (by kernel_rfl) ?_ _
              have L11 : LkR c (HJ || FH || VH || MH || addH AV MV) b H2 (knN P H2 R' (j + 1)) w (w10.setCell ⟨b, 348 + (j + 1), none⟩ (.int .i64 (addV AV MV))) :=
                ⟨L10.out.upd.setCell (by simp; omega) _, L10.out.rB.other (by simp; omega) _, (L10.out.nB.set _ _).congr (look_next hlt HFV.out HVV.out HAV.out HMV.out HN1.out HN2.out)⟩
              rw [look_flag HHJ.out HFV.out HFH.out HVV.out HVH.out HAV.out HMV.out HMH.out] at L11
              generalize w10.setCell ⟨b, 348 + (j + 1), none⟩ (.int .i64 (addV AV MV)) = W11 at *
              have HL11 := Lib.hid L11
              clear n0 n1 L9 L10 MC2 HL8 L11
              (try clear hHeld)
              go_wp2_with fail
              go_roundw
              case rel => exact ⟨j + 1, by omega, by go_num, HL11.out⟩
              case measure => simp [intOf]; omega
        · have hj24 : j = 24 := by omega
          subst hj24
          go_wp2_with fail
          go_ret
          refine ⟨b, rfl, by omega, ?_, ?_⟩
          · rw [show (h || lkH p H r) = (H1 || varH r || orB (bkS P H2 R') 24) from by rw [← HH1.out, ← HH2.out, ← HP.out, ← HR'.out]; simp [lkH, Bool.or_assoc]]
            exact R.out.upd
          · rw [HP.out, HH2.out, HR'.out]; exact R.out.nB
end Go.Proofs.Ytkllgphhfkoknaa
/- Contract of fx.MulDiv. -/
namespace Go.Proofs.Ytkllgphhfkoknaa
open Go.RowKit
set_option maxRecDepth 100000
theorem mdiv_walk (c : Addr) (h : Bool) (a b d x y z A V : Int) (H : Bool) (w : World) (hc : w.cell? c = some (.bool h)) (hf : w.frozen? c = false)
    (hx : satV a = x) (hy : satV b = y) (hz : satV d = z)
    (hm : ∀ w, Calls Try.prog 23 #[.int .i64 x, .int .i64 y] w fun e w' => e = .returned (.agg #[.int .i64 (hi64 A), .int .u64 (lo64 A)]) ∧ Below w.heap.size w w')
    (hr : ∀ w, w.cell? c = some (.bool (h || satH a || satH b || satH d)) → w.frozen? c = false → Calls Try.prog 25 #[.pointer (some c), .agg #[.int .i64 (hi64 A), .int .u64 (lo64 A)], .int .i64 z] w fun e w' =>
      e = .returned (.int .i64 V) ∧ Upd c H w w') :
    Calls Try.prog 9 #[.pointer (some c), .int .i64 a, .int .i64 b, .int .i64 d] w fun e w' => e = .returned (.int .i64 V) ∧ Upd c H w w' := by
  have hcb := World.block_lt_of_cell? w c hc
  have c1 : (w.setCell c (.bool (h || satH a))).cell? c = some (.bool (h || satH a)) := World.cell?_setCell_same _ _ _ hc
  have c2 : ((w.setCell c (.bool (h || satH a))).setCell c (.bool (h || satH a || satH b))).cell? c = some (.bool (h || satH a || satH b)) := World.cell?_setCell_same _ _ _ c1
  have HM := Lib.hid hm
  have HR := Lib.hid hr
  have C2 := Lib.hid c2
  clear hm hr c2
  go_enter Try.func9, Try.ntmps9
  go_wp2_with fail
  refine (sat_any c h a _ hc hf).mono ?_; rintro e w' ⟨rfl, rfl⟩
  go_wp2_with fail
  refine (sat_any c _ b _ c1 (by simp [hf])).mono ?_; rintro e w' ⟨rfl, rfl⟩
  have HW := Lib.hid (Upd.trans (Upd.set c (h || satH a) w) (Upd.set c (h || satH a || satH b) _))
  have F2 : ((w.setCell c (.bool (h || satH a))).setCell c (.bool (h || satH a || satH b))).frozen? c = false := by simp [hf]
  have Z2 := Upd.size HW.out
  obtain ⟨w2, hw2⟩ : ∃ w2, (w.setCell c (.bool (h || satH a))).setCell c (.bool (h || satH a || satH b)) = w2 := ⟨_, rfl⟩
  rw [hw2] at HW C2 F2 Z2 ⊢
  clear hw2 c1 hc hf
  go_wp2_with fail
  refine (HM.out _).mono ?_; rintro e w3 ⟨rfl, hb3⟩
  have k1 : w3.cell? c = some (.bool (h || satH a || satH b)) := (hb3.cell (by omega)).trans C2.out
  have k2 : w3.frozen? c = false := (hb3.frozen (by omega)).trans F2
  go_wp2_with fail
  refine (sat_any c _ d _ k1 k2).mono ?_; rintro e w' ⟨rfl, rfl⟩
  have k3 : (w3.setCell c (.bool (h || satH a || satH b || satH d))).cell? c = some (.bool (h || satH a || satH b || satH d)) := World.cell?_setCell_same _ _ _ k1
  go_wp2_with fail
  refine (HR.out _ k3 (by simp [k2])).mono ?_; rintro e w4 ⟨rfl, hu4⟩
  go_wp2_with fail
  go_ret
  refine ⟨rfl, ?_⟩
  exact HW.out.trans (Upd.after hb3 ((Upd.set c _ w3).trans hu4))
theorem mdiv_any (c : Addr) (h : Bool) (a b d : Int) (w : World) (hc : w.cell? c = some (.bool h)) (hf : w.frozen? c = false) :
    Calls Try.prog 9 #[.pointer (some c), .int .i64 a, .int .i64 b, .int .i64 d] w fun e w' => e = .returned (.int .i64 (mdivV a b d)) ∧ Upd c (h || mdivH a b d) w w' := by
  have ha := satV_bd a
  have hb := satV_bd b
  have hd := satV_bd d
  have hp := prod_bd a b
  have e2 : (h || mdivH a b d) = ((h || satH a || satH b || satH d) || byH (satV a * satV b) (satV d)) := by simp [mdivH, Bool.or_assoc]
  rw [e2]
  exact mdiv_walk c h a b d _ _ _ _ _ _ w hc hf rfl rfl rfl (fun w => mul_any _ _ _ w (by omega) (by omega) (by omega) (by omega) rfl (by omega) (by omega))
      (fun w k1 k2 => by_any c _ _ _ w k1 k2 (by omega) (by omega) (by omega) (by omega))
end Go.Proofs.Ytkllgphhfkoknaa
