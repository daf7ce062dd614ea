/- Contracts of the program's functions and plain laws, part 15: they hold for all arguments. -/
import Derived.Test.YtgfklheepkgedaaGreatQ14
import Derived.Test.YtgfklheepkgedaaGreatQ13
import Derived.Test.YtgfklheepkgedaaGreatQ08
/- Contract of reset.Yaw. -/
namespace Go.Proofs.YtgfklheepkgedaaGreat
open Go.RowKit
set_option maxRecDepth 100000
theorem qlen : Tryz.prog.arrayLen 38 = 4 := by kernel_rfl
theorem qund : Tryz.prog.underlying 38 = some (.array (Tryz.prog.arrayLen 38) (Tryz.prog.elem 38)) := by kernel_rfl
open Go in
/-- q[:] of a quaternion, wherever it lies. -/
theorem run_slice_q {o : Oper} {ev : Operand → Value} {w : World} (x : Operand) (ho : o.op = .slice 38 x none none none) (g off : Nat) (hx : ev x = .pointer (some ⟨g, off, none⟩)) :
    (execOp ev o).run Tryz.prog w = .ok (.value (.slice (some ⟨g, off, none⟩) 4 4)) w := by
  have h := run_sliceAt_array_all (P := Tryz.prog) w 38 ⟨g, off, none⟩ qund
  unfold execOp
  simp only [ho, hx, Option.map_none]
  rw [Sem.run_bind, h]
  have hs : (sizeOf (Tryz.prog.elem 38)).run Tryz.prog w = .ok 1 w := by rw [show Tryz.prog.elem 38 = 2 from by kernel_rfl]; simp [go_sem]
  rw [hs, qlen]
  simp [slicedAt, go_sem]
/-- The turned attitude, and the estimate with it. -/
def ywQ (S : Nat → Int) (a : Int) : Nat → Int := uniV (qmV (fyV a) (keepF S))
def ywS (S : Nat → Int) (a : Int) : Nat → Int := keepF (withF (keepF S) 0 4 (ywQ S a))
def ywT (a : Int) : Nat → Int := putF (tdF dl0 1) 0 4 (fyV a)
def ywH (h : Bool) (S : Nat → Int) (a : Int) : Bool := h || keepH S || fyH a || qmH (fyV a) (keepF S) || uniH (qmV (fyV a) (keepF S)) || keepH (withF (keepF S) 0 4 (ywQ S a))
section
variable {c : Addr} {h : Bool} {z tb qb : Nat} {F P T Q : Nat → Int} {w wr w' : World}
/-- The blocks of Yaw, once the quaternion lies there. -/
structure YwR (c : Addr) (h : Bool) (z tb qb : Nat) (F P T Q : Nat → Int) (w wr : World) : Prop where
  j : JpR c h z F P w wr
  t : Blk wr tb 42 11 T
  q : Blk wr qb 38 4 Q
  lt : z + 1 + 1 < tb ∧ z + 1 + 1 < qb
theorem YwR.down (s : YwR c h z tb qb F P T Q w wr) (u : Below wr.heap.size wr w') : YwR c h z tb qb F P T Q w w' := ⟨s.j.down u, s.t.below u, s.q.below u, s.lt⟩
theorem YwR.drew (s : YwR c h z tb qb F P T Q w wr) : YwR c h z tb qb F P T Q w wr.drew := s.down (Below.drew (Below.refl _ _))
theorem YwR.upd' {h' : Bool} (s : YwR c h z tb qb F P T Q w wr) (hc : c.block < w.heap.size) (u : Upd c h' wr w') : YwR c h' z tb qb F P T Q w w' := by
  have := s.j.lt
  have := s.lt
  exact ⟨s.j.upd' hc u, s.t.upd u (by omega), s.q.upd u (by omega), s.lt⟩
end
section
variable {c : Addr} {h : Bool} {z tb : Nat} {F P T : Nat → Int} {w wr : World}
theorem ya_new (s : JpR c h z F P w wr ∧ Blk wr tb 42 11 T ∧ z + 1 + 1 < tb) : Blk (wr.alloc (.cells #[.int .i64 0, .int .i64 0, .int .i64 0, .int .i64 0] 38)) wr.heap.size 38 4 (fun _ => 0) ∧ tb < wr.heap.size := by
  rw [zq4]
  exact ⟨Blk.new _ _ _ _, s.2.1.lt⟩
theorem yw_put (s : JpR c h z F P w wr ∧ Blk wr tb 42 11 T ∧ z + 1 + 1 < tb) {b : Nat} (a : Blk wr b 38 4 (fun _ => 0) ∧ tb < b) (U : Nat → Int) : YwR c h z tb b F P T U w (wr.setRow b (arrv 4 U)) := by
  have := s.2.2
  have := a.2
  exact ⟨s.1.far (by omega) _, s.2.1.setRow_other _ (by omega), a.1.setRow U, by omega, by omega⟩
end
theorem blk_v4 (w : World) (v : Int) : Blk (w.alloc (.cells #[.int .i64 v, .int .i64 v, .int .i64 v, .int .i64 v] 2)) w.heap.size 2 4 (fun _ => v) := by
  rw [show (#[.int .i64 v, .int .i64 v, .int .i64 v, .int .i64 v] : Array Value) = arrv 4 (fun _ => v) from by kernel_rfl]
  exact Blk.new _ _ _ _
theorem yw_lst {c : Addr} {h : Bool} {z tb qb : Nat} {F P T Q : Nat → Int} {w wr : World} (s : YwR c h z tb qb F P T Q w wr) (v : Int) : Blk (wr.alloc (.cells #[.int .i64 v, .int .i64 v, .int .i64 v, .int .i64 v] 2)) wr.heap.size 2 4 (fun _ => v) ∧ w.heap.size ≤ wr.heap.size :=
  ⟨blk_v4 wr v, s.j.upd.size⟩
set_option maxHeartbeats 16000000 in
theorem yaw_any (c : Addr) (h : Bool) (S P : Nat → Int) (a v : Int) (w : World) (hc : w.cell? c = some (.bool h)) (hf : w.frozen? c = false) :
    Calls Tryz.prog 6 #[.pointer (some c), .agg (arrv 24 S), .agg (arrv 300 P), .int .i64 a, .int .i64 v] w fun e w' =>
      e = .returned (.tuple #[.agg (arrv 24 (ywS S a)), .agg (arrv 300 (stepF P (rtF 0 4) (rtQ 0 (fun _ => v) 4))), .agg (arrv 11 (ywT a))]) ∧
      Upd c (ywH h S a || orB (rtB 0 (fun _ => v)) 4 || stepH P (rtF 0 4) (rtQ 0 (fun _ => v) 4)) w w' := by
  have hcb := World.block_lt_of_cell? w c hc
  have S0 := Lib.hid (jp_start c h S P w hc)
  have HC := Lib.hid hc
  have HF := Lib.hid hf
  clear hc hf
  obtain ⟨KE, hKE⟩ : ∃ x, keepF S = x := ⟨_, rfl⟩
  obtain ⟨Y, hY⟩ : ∃ x, fyV a = x := ⟨_, rfl⟩
  obtain ⟨M, hM⟩ : ∃ x, qmV Y KE = x := ⟨_, rfl⟩
  obtain ⟨U, hU⟩ : ∃ x, uniV M = x := ⟨_, rfl⟩
  obtain ⟨V, hV⟩ : ∃ x, withF KE 0 4 U = x := ⟨_, rfl⟩
  obtain ⟨TD, hTD⟩ : ∃ x, putF (tdF dl0 1) 0 4 Y = x := ⟨_, rfl⟩
  have EL := Lib.hid (show arrv 4 (fun i => TD i) = arrv 4 Y from arrv_congr fun i hi => by rw [← hTD]; unfold putF; rw [if_pos (by omega)]; congr 1)
  have HE := Lib.hid (show ywS S a = keepF V ∧ ywT a = TD ∧ ywH h S a = (h || keepH S || fyH a || qmH Y KE || uniH M || keepH V) by
    unfold ywS ywT ywH ywQ; rw [hKE, hY, hM, hU, hV, hTD]; exact ⟨rfl, rfl, rfl⟩)
  have NK := Lib.hid hKE
  have NY := Lib.hid hY
  have NM := Lib.hid hM
  have NU := Lib.hid hU
  have NV := Lib.hid hV
  have NT := Lib.hid hTD
  clear hKE hY hM hU hV hTD
  go_enter Tryz.func6, Tryz.ntmps6
  go_upto_region 1 with fail
  generalize ((((w.alloc (.cells (arrv 24 S) 23)).alloc (.cells (arrv 300 P) 26)).alloc (.cells #[.int .i64 0, .int .i64 0, .int .i64 0, .int .i64 0, .int .i64 0, .int .i64 0, .int .i64 0, .int .i64 0, .int .i64 0, .int .i64 0, .int .i64 0, .int .i64 0, .int .i64 0, .int .i64 0, .int .i64 0, .int .i64 0, .int .i64 0, .int .i64 0, .int .i64 0, .int .i64 0, .int .i64 0, .int .i64 0, .int .i64 0, .int .i64 0] 23)).alloc (.cells Tryz.zeroCells26 26)).alloc (.cells #[.int .i64 0, .int .i64 0, .int .i64 0, .int .i64 0, .int .i64 0, .int .i64 0, .int .i64 0, .int .i64 0, .int .i64 0, .int .i64 0, .int .i64 0] 42) = W0 at *
  have P0 := S0.out.s
  refine wp_region_lit ?_
  refine wpList_val (v := ?_) rfl ?_ ?_
  rotate_left
  · (go_simp; (try (first | with_reducible rfl | (constructor <;> with_reducible rfl))))
  (try simp only [Act.put, nA, nB, nC])
  refine wpList_val (v := ?_) rfl ?_ ?_
  rotate_left
  · refine Eq.trans (run_load_row 23 (.tmp 6) (by rfl) (w.heap.size) (by rfl) _ _ _ _ (P0) Tryz.underlying23 rfl (ist.trans (by rw [arrv_size]))) ?_; with_reducible rfl
  (try simp only [Act.put, nA, nB, nC])
  refine wpList_step (fun K hK => ?_)
  go_simp
  clear P0; (refine (keep_any c h S _ (S0.out.upd.cellc HC.out) ((S0.out.upd.frozen hcb).trans HF.out)).mono ?_); (rw [NK.out]); rintro e w1 ⟨rfl, hu⟩; have HS := Lib.hid (S0.out.upd' hcb hu); clear S0 hu; have P1 := HS.out.s
  (try dsimp only)
  (try simp only [Act.put, nA, nB, nC])
  refine hK _ _ ?_
  clear hK K
  refine wpList_done (w' := ?_) rfl ?_ ?_
  rotate_left
  · refine Eq.trans (run_store_row 23 (.tmp 6) (.tmp 17) (by rfl) (w.heap.size) (by rfl) (by rfl) (P1) (ist.trans rfl)) ?_; with_reducible rfl
  (try simp only [Act.put, nA, nB, nC])
  refine wpList_nil ?_
  have H1 := Lib.hid (HS.out.rowS KE)
  generalize w1.setRow w.heap.size (arrv 24 KE) = W1 at *
  clear P1 HS
  go_upto_region 2 with fail
  refine wp_region_lit ?_
  refine wpList_step (fun K hK => ?_)
  go_simp
  (refine (nothing_any _).mono ?_); rintro e w2 ⟨rfl, hb⟩; have H2 := Lib.hid (H1.out.down hb); clear hb H1
  (try dsimp only)
  (try simp only [Act.put, nA, nB, nC])
  refine hK _ _ ?_
  clear hK K
  refine wpList_val (v := ?_) rfl ?_ ?_
  rotate_left
  · (refine Eq.trans (run_build_td (.tmp 18) 1 (by rfl) (by rfl) (by rfl)) ?_; with_reducible rfl)
  (try simp only [Act.put, nA, nB, nC])
  refine wpList_act (v := ?_) (w' := ?_) rfl ?_ ?_
  rotate_left 2
  · (go_simp; (try (first | with_reducible rfl | (constructor <;> with_reducible rfl))))
  (try simp only [Act.put, nA, nB, nC])
  refine wpList_done (w' := ?_) rfl ?_ ?_
  rotate_left
  · (refine Eq.trans (run_store_row 42 (.tmp 13) (.tmp 19) (by rfl) (w2.heap.size) (by rfl) (by rfl) (show Blk (w2.alloc (.cells #[.int .i64 0, .int .i64 0, .int .i64 0, .int .i64 0, .int .i64 0, .int .i64 0, .int .i64 0, .int .i64 0, .int .i64 0, .int .i64 0, .int .i64 0] 42)) w2.heap.size 42 11 (fun _ => 0) by rw [ztd]; exact Blk.new _ _ _ _) (itd.trans rfl)) ?_; with_reducible rfl)
  (try simp only [Act.put, nA, nB, nC])
  refine wpList_nil ?_
  have NB := Lib.hid (jp_told H2.out (Own.nil w2 (w.heap.size + 1 + 1 + 1 + 1 + 1) 2 (fun _ => 0)) (Nat.le_refl _) (tdF dl0 1))
  generalize (w2.alloc (.cells #[.int .i64 0, .int .i64 0, .int .i64 0, .int .i64 0, .int .i64 0, .int .i64 0, .int .i64 0, .int .i64 0, .int .i64 0, .int .i64 0, .int .i64 0] 42)).setRow w2.heap.size (arrv 11 (tdF dl0 1)) = W2 at *
  obtain ⟨tb, htb⟩ : ∃ x, w2.heap.size = x := ⟨_, rfl⟩
  rw [htb] at NB ⊢
  clear htb H2
  have HS := Lib.hid (show JpR c (h || keepH S) (w.heap.size + 1 + 1) KE P w W2 ∧ Blk W2 tb 42 11 (tdF dl0 1) ∧ w.heap.size + 1 + 1 + 1 + 1 < tb from ⟨NB.out.1, NB.out.2.2.1, NB.out.2.2.2⟩)
  clear NB
  go_upto_region 3 with fail
  refine wp_region_lit ?_
  refine wpList_val (v := ?_) rfl ?_ ?_
  rotate_left
  · (go_simp; (try (first | with_reducible rfl | (constructor <;> with_reducible rfl))))
  (try simp only [Act.put, nA, nB, nC])
  refine wpList_val (v := ?_) rfl ?_ ?_
  rotate_left
  · (go_simp; (try (first | with_reducible rfl | (constructor <;> with_reducible rfl))))
  (try simp only [Act.put, nA, nB, nC])
  refine wpList_step (fun K hK => ?_)
  go_simp
  (refine (fromyaw_any c _ a _ (HS.out.1.upd.cellc HC.out) ((HS.out.1.upd.frozen hcb).trans HF.out)).mono ?_); (rw [NY.out]); rintro e w3 ⟨rfl, hu⟩; have HU := Lib.hid (jp_upd HS.out hcb hu); clear HS hu; have HS := HU; clear HU
  (try dsimp only)
  (try simp only [Act.put, nA, nB, nC])
  refine hK _ _ ?_
  clear hK K
  refine wpList_val (v := ?_) rfl ?_ ?_
  rotate_left
  · (go_simp; (try (first | with_reducible rfl | (constructor <;> with_reducible rfl))))
  (try simp only [Act.put, nA, nB, nC])
  refine wpList_val (v := ?_) rfl ?_ ?_
  rotate_left
  · (go_simp; (try (first | with_reducible rfl | (constructor <;> with_reducible rfl))))
  (try simp only [Act.put, nA, nB, nC])
  refine wpList_done (w' := ?_) rfl ?_ ?_
  rotate_left
  · (refine Eq.trans (run_store_sub 38 (.tmp 24) (.tmp 22) (by rfl) tb 0 (by rfl) (by rfl) HS.out.2.1 (by decide) iqt) ?_; with_reducible rfl)
  (try simp only [Act.put, nA, nB, nC])
  refine wpList_nil ?_
  rw [NT.out]
  have H3 := Lib.hid (jp_set HS.out.1 HS.out.2.1 HS.out.2.2 TD)
  generalize w3.setRow tb (arrv 11 TD) = W3 at *
  clear HS
  go_upto_region 4 with fail
  have HS := Lib.hid (jp_drew H3.out)
  clear H3
  go_cut [14] from 25 to 33 (fun s14 wx => ∃ b, s14 = .pointer (some ⟨b, 0, none⟩) ∧ Hid (YwR c (h || keepH S || fyH a || qmH Y KE || uniH M) (w.heap.size + 1 + 1) tb b KE P TD U w wx))
  case first =>
    refine wp_region_M (fun w' => Blk w' w.heap.size 23 24 KE ∧ Blk w' tb 42 11 TD) 10 (by kernel_rfl) ?_ (fun hHeld => ?_)
    · exact ⟨HS.out.1.s, HS.out.2.1⟩
    refine wpAnyM_take 0 (v := ?_) rfl (by kernel_rfl) (fun _ _ _ h => h) (Or.inl ⟨by rfl, ?_⟩) (by assumption) ?_
    rotate_left
    · (intro wx hSw; (try dsimp only at hSw); go_simp; (try with_reducible rfl))
    (try simp only [Act.put, nA, nB, nC])
    refine wpAnyM_take 1 (v := ?_) rfl (by kernel_rfl) (fun _ _ _ h => h) (Or.inl ⟨by rfl, ?_⟩) (by assumption) ?_
    rotate_left
    · (intro wx hSw; (try dsimp only at hSw); go_simp; (try with_reducible rfl))
    (try simp only [Act.put, nA, nB, nC])
    refine wpAnyM_take 2 (v := ?_) rfl (by kernel_rfl) (fun _ _ _ h => h) (Or.inl ⟨by rfl, ?_⟩) (by assumption) ?_
    rotate_left
    · (intro wx hSw; (try dsimp only at hSw); go_simp; (try with_reducible rfl))
    (try simp only [Act.put, nA, nB, nC])
    refine wpAnyM_take 3 (v := ?_) rfl (by kernel_rfl) (fun _ _ _ h => h) (Or.inl ⟨by rfl, ?_⟩) (by assumption) ?_
    rotate_left
    · (intro wx hSw; (try dsimp only at hSw); go_simp; (try with_reducible rfl))
    (try simp only [Act.put, nA, nB, nC])
    refine wpAnyM_take 4 (v := ?_) rfl (by kernel_rfl) (fun _ _ _ h => h) (Or.inl ⟨by rfl, ?_⟩) (by assumption) ?_
    rotate_left
    · (intro wx hSw; refine Eq.trans (run_load_sub 38 (.tmp 28) (by rfl) tb 0 4 (by rfl) hSw.2 (by decide) _ Tryz.underlying38 rfl iqt) ?_; with_reducible rfl)
    (try simp only [Act.put, nA, nB, nC])
    refine wpAnyM_take 5 (v := ?_) rfl (by kernel_rfl) (fun _ _ _ h => h) (Or.inl ⟨by rfl, ?_⟩) (by assumption) ?_
    rotate_left
    · (intro wx hSw; refine Eq.trans (run_load_row 23 (.tmp 6) (by rfl) (w.heap.size) (by rfl) _ _ _ _ (hSw.1) Tryz.underlying23 rfl (ist.trans (by rw [arrv_size]))) ?_; with_reducible rfl)
    (try simp only [Act.put, nA, nB, nC])
    refine wpAnyM_twoS 6 9 rfl rfl (by kernel_rfl) (fun K hK => ?_) (fun K hK => ?_)
    · go_simp
      (refine (att_any KE _).mono ?_); rintro e w4 ⟨rfl, hb⟩; have HU := Lib.hid (jp_down HS.out hb); clear HS; have HS := HU; clear HU; (try (have HA2 := Lib.hid (And.intro (HA.out.1.below hb) HA.out.2); clear HA; have HA := HA2; clear HA2)); clear hb
      (try dsimp only)
      (try simp only [Act.put, nA, nB, nC])
      clear hHeld
      refine hK.out _ _ ?_ (fun hHeld => ?_)
      · exact ⟨HS.out.1.s, HS.out.2.1⟩
      clear hK K
      (try simp only [Act.put, nA, nB, nC])
      refine wpAnyM_twoS 7 9 rfl rfl (by kernel_rfl) (fun K hK => ?_) (fun K hK => ?_)
      · go_simp
        (rw [EL.out]); (refine (qmul_any c _ Y KE _ (HS.out.1.upd.cellc HC.out) ((HS.out.1.upd.frozen hcb).trans HF.out)).mono ?_); (rw [NM.out]); rintro e w5 ⟨rfl, hu⟩; have hlm := HS.out.1.lt; have hlt := HS.out.2.2; have HU := Lib.hid (jp_upd HS.out hcb hu); clear HS; have HS := HU; clear HU; (try (have HA2 := Lib.hid (And.intro (HA.out.1.upd hu (by have := HA.out.2; omega)) HA.out.2); clear HA; have HA := HA2; clear HA2)); clear hu hlm hlt
        (try dsimp only)
        (try simp only [Act.put, nA, nB, nC])
        clear hHeld
        refine hK.out _ _ ?_ (fun hHeld => ?_)
        · exact ⟨HS.out.1.s, HS.out.2.1⟩
        clear hK K
        (try simp only [Act.put, nA, nB, nC])
        refine wpAnyM_twoS 8 9 rfl rfl (by kernel_rfl) (fun K hK => ?_) (fun K hK => ?_)
        · go_simp
          (refine (qunit_any c _ M _ (HS.out.1.upd.cellc HC.out) ((HS.out.1.upd.frozen hcb).trans HF.out)).mono ?_); (rw [NU.out]); rintro e w6 ⟨rfl, hu⟩; have hlm := HS.out.1.lt; have hlt := HS.out.2.2; have HU := Lib.hid (jp_upd HS.out hcb hu); clear HS; have HS := HU; clear HU; (try (have HA2 := Lib.hid (And.intro (HA.out.1.upd hu (by have := HA.out.2; omega)) HA.out.2); clear HA; have HA := HA2; clear HA2)); clear hu hlm hlt
          (try dsimp only)
          (try simp only [Act.put, nA, nB, nC])
          clear hHeld
          refine hK.out _ _ ?_ (fun hHeld => ?_)
          · exact ⟨HS.out.1.s, HS.out.2.1⟩
          clear hK K
          (try simp only [Act.put, nA, nB, nC])
          refine wpAnyM_oneS 9 rfl (by kernel_rfl) (fun K hK => ?_)
          go_simp; have HA := Lib.hid (ya_new HS.out); have HU := Lib.hid (jp_down HS.out ((Below.refl _ _).alloc (Nat.le_refl _) (.cells #[.int .i64 0, .int .i64 0, .int .i64 0, .int .i64 0] 38))); clear HS; have HS := HU; clear HU
          clear hHeld
          refine hK.out _ _ ?_ (fun hHeld => ?_)
          · exact ⟨HS.out.1.s, HS.out.2.1⟩
          clear hK K
          (try simp only [Act.put, nA, nB, nC])
          refine wpAnyM_doneL 10 rfl (by kernel_rfl) (by rfl) (by kernel_rfl) (run_store_row 38 (.tmp 14) (.tmp 33) rfl _ rfl rfl HA.out.1 iqt) ?_
          (try simp only [Act.put, nA, nB, nC])
          refine wpAnyM_done (by kernel_rfl) ?_ _
          (go_wp2_with fail; go_meet; exact ⟨_, rfl, Lib.hid (yw_put HS.out HA.out U)⟩)
        · go_simp; have HA := Lib.hid (ya_new HS.out); have HU := Lib.hid (jp_down HS.out ((Below.refl _ _).alloc (Nat.le_refl _) (.cells #[.int .i64 0, .int .i64 0, .int .i64 0, .int .i64 0] 38))); clear HS; have HS := HU; clear HU
          clear hHeld
          refine hK.out _ _ ?_ (fun hHeld => ?_)
          · exact ⟨HS.out.1.s, HS.out.2.1⟩
          clear hK K
          (try simp only [Act.put, nA, nB, nC])
          refine wpAnyM_oneS 8 rfl (by kernel_rfl) (fun K hK => ?_)
          go_simp
          (refine (qunit_any c _ M _ (HS.out.1.upd.cellc HC.out) ((HS.out.1.upd.frozen hcb).trans HF.out)).mono ?_); (rw [NU.out]); rintro e w6 ⟨rfl, hu⟩; have hlm := HS.out.1.lt; have hlt := HS.out.2.2; have HU := Lib.hid (jp_upd HS.out hcb hu); clear HS; have HS := HU; clear HU; (try (have HA2 := Lib.hid (And.intro (HA.out.1.upd hu (by have := HA.out.2; omega)) HA.out.2); clear HA; have HA := HA2; clear HA2)); clear hu hlm hlt
          (try dsimp only)
          (try simp only [Act.put, nA, nB, nC])
          clear hHeld
          refine hK.out _ _ ?_ (fun hHeld => ?_)
          · exact ⟨HS.out.1.s, HS.out.2.1⟩
          clear hK K
          (try simp only [Act.put, nA, nB, nC])
          refine wpAnyM_doneL 10 rfl (by kernel_rfl) (by rfl) (by kernel_rfl) (run_store_row 38 (.tmp 14) (.tmp 33) rfl _ rfl rfl HA.out.1 iqt) ?_
          (try simp only [Act.put, nA, nB, nC])
          refine wpAnyM_done (by kernel_rfl) ?_ _
          (go_wp2_with fail; go_meet; exact ⟨_, rfl, Lib.hid (yw_put HS.out HA.out U)⟩)
      · go_simp; have HA := Lib.hid (ya_new HS.out); have HU := Lib.hid (jp_down HS.out ((Below.refl _ _).alloc (Nat.le_refl _) (.cells #[.int .i64 0, .int .i64 0, .int .i64 0, .int .i64 0] 38))); clear HS; have HS := HU; clear HU
        clear hHeld
        refine hK.out _ _ ?_ (fun hHeld => ?_)
        · exact ⟨HS.out.1.s, HS.out.2.1⟩
        clear hK K
        (try simp only [Act.put, nA, nB, nC])
        refine wpAnyM_oneS 7 rfl (by kernel_rfl) (fun K hK => ?_)
        go_simp
        (rw [EL.out]); (refine (qmul_any c _ Y KE _ (HS.out.1.upd.cellc HC.out) ((HS.out.1.upd.frozen hcb).trans HF.out)).mono ?_); (rw [NM.out]); rintro e w5 ⟨rfl, hu⟩; have hlm := HS.out.1.lt; have hlt := HS.out.2.2; have HU := Lib.hid (jp_upd HS.out hcb hu); clear HS; have HS := HU; clear HU; (try (have HA2 := Lib.hid (And.intro (HA.out.1.upd hu (by have := HA.out.2; omega)) HA.out.2); clear HA; have HA := HA2; clear HA2)); clear hu hlm hlt
        (try dsimp only)
        (try simp only [Act.put, nA, nB, nC])
        clear hHeld
        refine hK.out _ _ ?_ (fun hHeld => ?_)
        · exact ⟨HS.out.1.s, HS.out.2.1⟩
        clear hK K
        (try simp only [Act.put, nA, nB, nC])
        refine wpAnyM_oneS 8 rfl (by kernel_rfl) (fun K hK => ?_)
        go_simp
        (refine (qunit_any c _ M _ (HS.out.1.upd.cellc HC.out) ((HS.out.1.upd.frozen hcb).trans HF.out)).mono ?_); (rw [NU.out]); rintro e w6 ⟨rfl, hu⟩; have hlm := HS.out.1.lt; have hlt := HS.out.2.2; have HU := Lib.hid (jp_upd HS.out hcb hu); clear HS; have HS := HU; clear HU; (try (have HA2 := Lib.hid (And.intro (HA.out.1.upd hu (by have := HA.out.2; omega)) HA.out.2); clear HA; have HA := HA2; clear HA2)); clear hu hlm hlt
        (try dsimp only)
        (try simp only [Act.put, nA, nB, nC])
        clear hHeld
        refine hK.out _ _ ?_ (fun hHeld => ?_)
        · exact ⟨HS.out.1.s, HS.out.2.1⟩
        clear hK K
        (try simp only [Act.put, nA, nB, nC])
        refine wpAnyM_doneL 10 rfl (by kernel_rfl) (by rfl) (by kernel_rfl) (run_store_row 38 (.tmp 14) (.tmp 33) rfl _ rfl rfl HA.out.1 iqt) ?_
        (try simp only [Act.put, nA, nB, nC])
        refine wpAnyM_done (by kernel_rfl) ?_ _
        (go_wp2_with fail; go_meet; exact ⟨_, rfl, Lib.hid (yw_put HS.out HA.out U)⟩)
    · go_simp; have HA := Lib.hid (ya_new HS.out); have HU := Lib.hid (jp_down HS.out ((Below.refl _ _).alloc (Nat.le_refl _) (.cells #[.int .i64 0, .int .i64 0, .int .i64 0, .int .i64 0] 38))); clear HS; have HS := HU; clear HU
      clear hHeld
      refine hK.out _ _ ?_ (fun hHeld => ?_)
      · exact ⟨HS.out.1.s, HS.out.2.1⟩
      clear hK K
      (try simp only [Act.put, nA, nB, nC])
      refine wpAnyM_oneS 6 rfl (by kernel_rfl) (fun K hK => ?_)
      go_simp
      (refine (att_any KE _).mono ?_); rintro e w4 ⟨rfl, hb⟩; have HU := Lib.hid (jp_down HS.out hb); clear HS; have HS := HU; clear HU; (try (have HA2 := Lib.hid (And.intro (HA.out.1.below hb) HA.out.2); clear HA; have HA := HA2; clear HA2)); clear hb
      (try dsimp only)
      (try simp only [Act.put, nA, nB, nC])
      clear hHeld
      refine hK.out _ _ ?_ (fun hHeld => ?_)
      · exact ⟨HS.out.1.s, HS.out.2.1⟩
      clear hK K
      (try simp only [Act.put, nA, nB, nC])
      refine wpAnyM_oneS 7 rfl (by kernel_rfl) (fun K hK => ?_)
      go_simp
      (rw [EL.out]); (refine (qmul_any c _ Y KE _ (HS.out.1.upd.cellc HC.out) ((HS.out.1.upd.frozen hcb).trans HF.out)).mono ?_); (rw [NM.out]); rintro e w5 ⟨rfl, hu⟩; have hlm := HS.out.1.lt; have hlt := HS.out.2.2; have HU := Lib.hid (jp_upd HS.out hcb hu); clear HS; have HS := HU; clear HU; (try (have HA2 := Lib.hid (And.intro (HA.out.1.upd hu (by have := HA.out.2; omega)) HA.out.2); clear HA; have HA := HA2; clear HA2)); clear hu hlm hlt
      (try dsimp only)
      (try simp only [Act.put, nA, nB, nC])
      clear hHeld
      refine hK.out _ _ ?_ (fun hHeld => ?_)
      · exact ⟨HS.out.1.s, HS.out.2.1⟩
      clear hK K
      (try simp only [Act.put, nA, nB, nC])
      refine wpAnyM_oneS 8 rfl (by kernel_rfl) (fun K hK => ?_)
      go_simp
      (refine (qunit_any c _ M _ (HS.out.1.upd.cellc HC.out) ((HS.out.1.upd.frozen hcb).trans HF.out)).mono ?_); (rw [NU.out]); rintro e w6 ⟨rfl, hu⟩; have hlm := HS.out.1.lt; have hlt := HS.out.2.2; have HU := Lib.hid (jp_upd HS.out hcb hu); clear HS; have HS := HU; clear HU; (try (have HA2 := Lib.hid (And.intro (HA.out.1.upd hu (by have := HA.out.2; omega)) HA.out.2); clear HA; have HA := HA2; clear HA2)); clear hu hlm hlt
      (try dsimp only)
      (try simp only [Act.put, nA, nB, nC])
      clear hHeld
      refine hK.out _ _ ?_ (fun hHeld => ?_)
      · exact ⟨HS.out.1.s, HS.out.2.1⟩
      clear hK K
      (try simp only [Act.put, nA, nB, nC])
      refine wpAnyM_doneL 10 rfl (by kernel_rfl) (by rfl) (by kernel_rfl) (run_store_row 38 (.tmp 14) (.tmp 33) rfl _ rfl rfl HA.out.1 iqt) ?_
      (try simp only [Act.put, nA, nB, nC])
      refine wpAnyM_done (by kernel_rfl) ?_ _
      (go_wp2_with fail; go_meet; exact ⟨_, rfl, Lib.hid (yw_put HS.out HA.out U)⟩)
  case rest =>
  obtain ⟨qb, rfl, HB⟩ := hcut
  clear HS
  go_upto_region 5 with fail
  have HS := Lib.hid HB.out.drew
  clear HB
  refine wp_region_M (fun w' => Blk w' w.heap.size 23 24 KE ∧ Blk w' (w.heap.size + 1) 26 300 P ∧ Blk w' tb 42 11 TD) 16 (by kernel_rfl) ?_ (fun hHeld => ?_)
  · first | exact ⟨HS.out.j.s, HS.out.j.p, HS.out.t⟩ | exact jp_k0 HS.out.j HS.out.t HS.out.lt.1 _ | exact jp_k1 HS.out.j HS.out.t HS.out.lt.1 _ _
  refine wpAnyM_take 0 (v := ?_) rfl (by kernel_rfl) (fun _ _ _ h => h) (Or.inl ⟨by rfl, ?_⟩) (by assumption) ?_
  rotate_left
  · (intro wx hSw; (try dsimp only at hSw); go_simp; (try with_reducible rfl))
  (try simp only [Act.put, nA, nB, nC])
  refine wpAnyM_take 1 (v := ?_) rfl (by kernel_rfl) (fun _ _ _ h => h) (Or.inl ⟨by rfl, ?_⟩) (by assumption) ?_
  rotate_left
  · (intro wx hSw; refine Eq.trans (run_load_row 23 (.tmp 6) (by rfl) (w.heap.size) (by rfl) _ _ _ _ (hSw.1) Tryz.underlying23 rfl (ist.trans (by rw [arrv_size]))) ?_; with_reducible rfl)
  (try simp only [Act.put, nA, nB, nC])
  refine wpAnyM_take 2 (v := ?_) rfl (by kernel_rfl) (fun _ _ _ h => h) (Or.inl ⟨by rfl, ?_⟩) (by assumption) ?_
  rotate_left
  · (intro wx hSw; refine Eq.trans (run_slice_q (.tmp 14) (by rfl) qb 0 (by rfl)) ?_; with_reducible rfl)
  (try simp only [Act.put, nA, nB, nC])
  refine wpAnyM_take 5 (v := ?_) rfl (by kernel_rfl) (fun _ _ _ h => h) (Or.inl ⟨by rfl, ?_⟩) (by assumption) ?_
  rotate_left
  · (intro wx hSw; (try dsimp only at hSw); go_simp; (try with_reducible rfl))
  (try simp only [Act.put, nA, nB, nC])
  refine wpAnyM_take 6 (v := ?_) rfl (by kernel_rfl) (fun _ _ _ h => h) (Or.inl ⟨by rfl, ?_⟩) (by assumption) ?_
  rotate_left
  · (intro wx hSw; refine Eq.trans (run_load_row 26 (.tmp 7) (by rfl) (w.heap.size + 1) (by rfl) _ _ _ _ (hSw.2.1) Tryz.underlying26 rfl (icov.trans (by rw [arrv_size]))) ?_; with_reducible rfl)
  (try simp only [Act.put, nA, nB, nC])
  refine wpAnyM_take 7 (v := ?_) rfl (by kernel_rfl) (fun _ _ _ h => h) (Or.inl ⟨by rfl, ?_⟩) (by assumption) ?_
  rotate_left
  · (intro wx hSw; (try dsimp only at hSw); go_simp; (try with_reducible rfl))
  (try simp only [Act.put, nA, nB, nC])
  refine wpAnyM_take 8 (v := ?_) rfl (by kernel_rfl) (fun _ _ _ h => h) (Or.inl ⟨by rfl, ?_⟩) (by assumption) ?_
  rotate_left
  · (intro wx hSw; (try dsimp only at hSw); go_simp; (try with_reducible rfl))
  (try simp only [Act.put, nA, nB, nC])
  refine wpAnyM_take 9 (v := ?_) rfl (by kernel_rfl) (fun _ _ _ h => h) (Or.inl ⟨by rfl, ?_⟩) (by assumption) ?_
  rotate_left
  · (intro wx hSw; (try dsimp only at hSw); go_simp; (try with_reducible rfl))
  (try simp only [Act.put, nA, nB, nC])
  refine wpAnyM_take 10 (v := ?_) rfl (by kernel_rfl) (fun _ _ _ h => h) (Or.inl ⟨by rfl, ?_⟩) (by assumption) ?_
  rotate_left
  · (intro wx hSw; (try dsimp only at hSw); go_simp; (try with_reducible rfl))
  (try simp only [Act.put, nA, nB, nC])
  refine wpAnyM_take 13 (v := ?_) rfl (by kernel_rfl) (fun _ _ _ h => h) (Or.inl ⟨by rfl, ?_⟩) (by assumption) ?_
  rotate_left
  · (intro wx hSw; refine Eq.trans (run_load_row 42 (.tmp 13) (by rfl) (tb) (by rfl) _ _ _ _ (hSw.2.2) Tryz.underlying42 rfl (itd.trans (by rw [arrv_size]))) ?_; with_reducible rfl)
  (try simp only [Act.put, nA, nB, nC])
  refine wpAnyM_twoS 3 11 rfl rfl (by kernel_rfl) (fun K hK => ?_) (fun K hK => ?_)
  · go_simp
    (refine (swith_any KE 0 _ 4 4 U _ (by decide) (by decide) (by decide) (Slc.of_blk HS.out.q)).mono ?_); (rw [NV.out]); rintro e w7 ⟨rfl, hb⟩; have HU := Lib.hid (HS.out.down hb); clear HS; have HS := HU; clear HU; (try (have HA2 := Lib.hid (And.intro (HL.out.1.below hb) HL.out.2); clear HL; have HL := HA2; clear HA2)); clear hb
    (try dsimp only)
    (try simp only [Act.put, nA, nB, nC])
    clear hHeld
    refine hK.out _ _ ?_ (fun hHeld => ?_)
    · first | exact ⟨HS.out.j.s, HS.out.j.p, HS.out.t⟩ | exact jp_k0 HS.out.j HS.out.t HS.out.lt.1 _ | exact jp_k1 HS.out.j HS.out.t HS.out.lt.1 _ _
    clear hK K
    (try simp only [Act.put, nA, nB, nC])
    refine wpAnyM_twoS 4 11 rfl rfl (by kernel_rfl) (fun K hK => ?_) (fun K hK => ?_)
    · go_simp
      (refine (keep_any c _ V _ (HS.out.j.upd.cellc HC.out) ((HS.out.j.upd.frozen hcb).trans HF.out)).mono ?_); rintro e w8 ⟨rfl, hu⟩; have HU := Lib.hid (HS.out.upd' hcb hu); clear HS; have HS := HU; clear HU; (try (have HA2 := Lib.hid (And.intro (HL.out.1.upd hu (by have := HL.out.2; omega)) HL.out.2); clear HL; have HL := HA2; clear HA2)); clear hu
      (try dsimp only)
      (try simp only [Act.put, nA, nB, nC])
      clear hHeld
      refine hK.out _ _ ?_ (fun hHeld => ?_)
      · first | exact ⟨HS.out.j.s, HS.out.j.p, HS.out.t⟩ | exact jp_k0 HS.out.j HS.out.t HS.out.lt.1 _ | exact jp_k1 HS.out.j HS.out.t HS.out.lt.1 _ _
      clear hK K
      (try simp only [Act.put, nA, nB, nC])
      refine wpAnyM_oneS 11 rfl (by kernel_rfl) (fun K hK => ?_)
      go_simp; have HL := Lib.hid (yw_lst HS.out v); have HU := Lib.hid (HS.out.down ((Below.refl _ _).alloc (Nat.le_refl _) (.cells #[.int .i64 v, .int .i64 v, .int .i64 v, .int .i64 v] 2))); clear HS; have HS := HU; clear HU
      clear hHeld
      refine hK.out _ _ ?_ (fun hHeld => ?_)
      · first | exact ⟨HS.out.j.s, HS.out.j.p, HS.out.t⟩ | exact jp_k0 HS.out.j HS.out.t HS.out.lt.1 _ | exact jp_k1 HS.out.j HS.out.t HS.out.lt.1 _ _
      clear hK K
      (try simp only [Act.put, nA, nB, nC])
      refine wpAnyM_oneS 12 rfl (by kernel_rfl) (fun K hK => ?_)
      go_simp
      have RC := reset_any c _ P 0 _ 4 4 (fun _ => v) _ (HS.out.j.upd.cellc HC.out) ((HS.out.j.upd.frozen hcb).trans HF.out) (Slc.of_blk HL.out.1) (by decide) (by decide); (refine RC.mono ?_); rintro e w9 ⟨rfl, hu⟩; clear RC HL; have HU := Lib.hid (HS.out.upd' hcb hu); clear HS hu; have HS := HU; clear HU; have HR := Lib.hid (jp_all HS.out.j (keepF V) (stepF P (rtF 0 4) (rtQ 0 (fun _ => v) 4)) TD)
      (try dsimp only)
      (try simp only [Act.put, nA, nB, nC])
      clear hHeld
      refine hK.out _ _ ?_ (fun hHeld => ?_)
      · first | exact ⟨HS.out.j.s, HS.out.j.p, HS.out.t⟩ | exact jp_k0 HS.out.j HS.out.t HS.out.lt.1 _ | exact jp_k1 HS.out.j HS.out.t HS.out.lt.1 _ _
      clear hK K
      (try simp only [Act.put, nA, nB, nC])
      clear hHeld
      refine wpAnyM_doneN 14 rfl (by kernel_rfl) (by rfl) (run_store_row 23 (.tmp 10) (.tmp 38) rfl _ rfl rfl HS.out.j.r0 ist) ?_ (fun hHeld => ?_)
      · first | exact ⟨HS.out.j.s, HS.out.j.p, HS.out.t⟩ | exact jp_k0 HS.out.j HS.out.t HS.out.lt.1 _ | exact jp_k1 HS.out.j HS.out.t HS.out.lt.1 _ _
      (try simp only [Act.put, nA, nB, nC])
      clear hHeld
      refine wpAnyM_doneN 15 rfl (by kernel_rfl) (by rfl) (run_store_row 26 (.tmp 11) (.tmp 46) rfl _ rfl rfl HR.out.1 icov) ?_ (fun hHeld => ?_)
      · first | exact ⟨HS.out.j.s, HS.out.j.p, HS.out.t⟩ | exact jp_k0 HS.out.j HS.out.t HS.out.lt.1 _ | exact jp_k1 HS.out.j HS.out.t HS.out.lt.1 _ _
      (try simp only [Act.put, nA, nB, nC])
      refine wpAnyM_doneL 16 rfl (by kernel_rfl) (by rfl) (by kernel_rfl) (run_store_row 42 (.tmp 12) (.tmp 47) rfl _ rfl rfl HR.out.2.1 itd) ?_
      (try simp only [Act.put, nA, nB, nC])
      refine wpAnyM_done (by kernel_rfl) ?_ _
      (go_wp2_with fail; exact bodyPost_ret_by (results_rows3 Tryz.results6 _ _ (w.heap.size + 1 + 1) (w.heap.size + 1 + 1 + 1) (w.heap.size + 1 + 1 + 1 + 1) 23 26 42 (arrv 24 (keepF V)) (arrv 300 (stepF P (rtF 0 4) (rtQ 0 (fun _ => v) 4))) (arrv 11 TD) (0, 0) (0, 0) (0, 0) _ _ _ rfl HR.out.2.2.1 Tryz.underlying23 rfl (ist.trans (by rw [arrv_size])) rfl HR.out.2.2.2.1 Tryz.underlying26 rfl (icov.trans (by rw [arrv_size])) rfl HR.out.2.2.2.2.1 Tryz.underlying42 rfl (itd.trans (by rw [arrv_size]))) rfl ⟨by rw [HE.out.1, HE.out.2.1], by rw [HE.out.2.2]; exact HR.out.2.2.2.2.2⟩)
    · go_simp; have HL := Lib.hid (yw_lst HS.out v); have HU := Lib.hid (HS.out.down ((Below.refl _ _).alloc (Nat.le_refl _) (.cells #[.int .i64 v, .int .i64 v, .int .i64 v, .int .i64 v] 2))); clear HS; have HS := HU; clear HU
      clear hHeld
      refine hK.out _ _ ?_ (fun hHeld => ?_)
      · first | exact ⟨HS.out.j.s, HS.out.j.p, HS.out.t⟩ | exact jp_k0 HS.out.j HS.out.t HS.out.lt.1 _ | exact jp_k1 HS.out.j HS.out.t HS.out.lt.1 _ _
      clear hK K
      (try simp only [Act.put, nA, nB, nC])
      refine wpAnyM_oneS 4 rfl (by kernel_rfl) (fun K hK => ?_)
      go_simp
      (refine (keep_any c _ V _ (HS.out.j.upd.cellc HC.out) ((HS.out.j.upd.frozen hcb).trans HF.out)).mono ?_); rintro e w8 ⟨rfl, hu⟩; have HU := Lib.hid (HS.out.upd' hcb hu); clear HS; have HS := HU; clear HU; (try (have HA2 := Lib.hid (And.intro (HL.out.1.upd hu (by have := HL.out.2; omega)) HL.out.2); clear HL; have HL := HA2; clear HA2)); clear hu
      (try dsimp only)
      (try simp only [Act.put, nA, nB, nC])
      clear hHeld
      refine hK.out _ _ ?_ (fun hHeld => ?_)
      · first | exact ⟨HS.out.j.s, HS.out.j.p, HS.out.t⟩ | exact jp_k0 HS.out.j HS.out.t HS.out.lt.1 _ | exact jp_k1 HS.out.j HS.out.t HS.out.lt.1 _ _
      clear hK K
      (try simp only [Act.put, nA, nB, nC])
      refine wpAnyM_oneS 12 rfl (by kernel_rfl) (fun K hK => ?_)
      go_simp
      have RC := reset_any c _ P 0 _ 4 4 (fun _ => v) _ (HS.out.j.upd.cellc HC.out) ((HS.out.j.upd.frozen hcb).trans HF.out) (Slc.of_blk HL.out.1) (by decide) (by decide); (refine RC.mono ?_); rintro e w9 ⟨rfl, hu⟩; clear RC HL; have HU := Lib.hid (HS.out.upd' hcb hu); clear HS hu; have HS := HU; clear HU; have HR := Lib.hid (jp_all HS.out.j (keepF V) (stepF P (rtF 0 4) (rtQ 0 (fun _ => v) 4)) TD)
      (try dsimp only)
      (try simp only [Act.put, nA, nB, nC])
      clear hHeld
      refine hK.out _ _ ?_ (fun hHeld => ?_)
      · first | exact ⟨HS.out.j.s, HS.out.j.p, HS.out.t⟩ | exact jp_k0 HS.out.j HS.out.t HS.out.lt.1 _ | exact jp_k1 HS.out.j HS.out.t HS.out.lt.1 _ _
      clear hK K
      (try simp only [Act.put, nA, nB, nC])
      clear hHeld
      refine wpAnyM_doneN 14 rfl (by kernel_rfl) (by rfl) (run_store_row 23 (.tmp 10) (.tmp 38) rfl _ rfl rfl HS.out.j.r0 ist) ?_ (fun hHeld => ?_)
      · first | exact ⟨HS.out.j.s, HS.out.j.p, HS.out.t⟩ | exact jp_k0 HS.out.j HS.out.t HS.out.lt.1 _ | exact jp_k1 HS.out.j HS.out.t HS.out.lt.1 _ _
      (try simp only [Act.put, nA, nB, nC])
      clear hHeld
      refine wpAnyM_doneN 15 rfl (by kernel_rfl) (by rfl) (run_store_row 26 (.tmp 11) (.tmp 46) rfl _ rfl rfl HR.out.1 icov) ?_ (fun hHeld => ?_)
      · first | exact ⟨HS.out.j.s, HS.out.j.p, HS.out.t⟩ | exact jp_k0 HS.out.j HS.out.t HS.out.lt.1 _ | exact jp_k1 HS.out.j HS.out.t HS.out.lt.1 _ _
      (try simp only [Act.put, nA, nB, nC])
      refine wpAnyM_doneL 16 rfl (by kernel_rfl) (by rfl) (by kernel_rfl) (run_store_row 42 (.tmp 12) (.tmp 47) rfl _ rfl rfl HR.out.2.1 itd) ?_
      (try simp only [Act.put, nA, nB, nC])
      refine wpAnyM_done (by kernel_rfl) ?_ _
      (go_wp2_with fail; exact bodyPost_ret_by (results_rows3 Tryz.results6 _ _ (w.heap.size + 1 + 1) (w.heap.size + 1 + 1 + 1) (w.heap.size + 1 + 1 + 1 + 1) 23 26 42 (arrv 24 (keepF V)) (arrv 300 (stepF P (rtF 0 4) (rtQ 0 (fun _ => v) 4))) (arrv 11 TD) (0, 0) (0, 0) (0, 0) _ _ _ rfl HR.out.2.2.1 Tryz.underlying23 rfl (ist.trans (by rw [arrv_size])) rfl HR.out.2.2.2.1 Tryz.underlying26 rfl (icov.trans (by rw [arrv_size])) rfl HR.out.2.2.2.2.1 Tryz.underlying42 rfl (itd.trans (by rw [arrv_size]))) rfl ⟨by rw [HE.out.1, HE.out.2.1], by rw [HE.out.2.2]; exact HR.out.2.2.2.2.2⟩)
  · go_simp; have HL := Lib.hid (yw_lst HS.out v); have HU := Lib.hid (HS.out.down ((Below.refl _ _).alloc (Nat.le_refl _) (.cells #[.int .i64 v, .int .i64 v, .int .i64 v, .int .i64 v] 2))); clear HS; have HS := HU; clear HU
    clear hHeld
    refine hK.out _ _ ?_ (fun hHeld => ?_)
    · first | exact ⟨HS.out.j.s, HS.out.j.p, HS.out.t⟩ | exact jp_k0 HS.out.j HS.out.t HS.out.lt.1 _ | exact jp_k1 HS.out.j HS.out.t HS.out.lt.1 _ _
    clear hK K
    (try simp only [Act.put, nA, nB, nC])
    refine wpAnyM_oneS 3 rfl (by kernel_rfl) (fun K hK => ?_)
    go_simp
    (refine (swith_any KE 0 _ 4 4 U _ (by decide) (by decide) (by decide) (Slc.of_blk HS.out.q)).mono ?_); (rw [NV.out]); rintro e w7 ⟨rfl, hb⟩; have HU := Lib.hid (HS.out.down hb); clear HS; have HS := HU; clear HU; (try (have HA2 := Lib.hid (And.intro (HL.out.1.below hb) HL.out.2); clear HL; have HL := HA2; clear HA2)); clear hb
    (try dsimp only)
    (try simp only [Act.put, nA, nB, nC])
    clear hHeld
    refine hK.out _ _ ?_ (fun hHeld => ?_)
    · first | exact ⟨HS.out.j.s, HS.out.j.p, HS.out.t⟩ | exact jp_k0 HS.out.j HS.out.t HS.out.lt.1 _ | exact jp_k1 HS.out.j HS.out.t HS.out.lt.1 _ _
    clear hK K
    (try simp only [Act.put, nA, nB, nC])
    refine wpAnyM_oneS 4 rfl (by kernel_rfl) (fun K hK => ?_)
    go_simp
    (refine (keep_any c _ V _ (HS.out.j.upd.cellc HC.out) ((HS.out.j.upd.frozen hcb).trans HF.out)).mono ?_); rintro e w8 ⟨rfl, hu⟩; have HU := Lib.hid (HS.out.upd' hcb hu); clear HS; have HS := HU; clear HU; (try (have HA2 := Lib.hid (And.intro (HL.out.1.upd hu (by have := HL.out.2; omega)) HL.out.2); clear HL; have HL := HA2; clear HA2)); clear hu
    (try dsimp only)
    (try simp only [Act.put, nA, nB, nC])
    clear hHeld
    refine hK.out _ _ ?_ (fun hHeld => ?_)
    · first | exact ⟨HS.out.j.s, HS.out.j.p, HS.out.t⟩ | exact jp_k0 HS.out.j HS.out.t HS.out.lt.1 _ | exact jp_k1 HS.out.j HS.out.t HS.out.lt.1 _ _
    clear hK K
    (try simp only [Act.put, nA, nB, nC])
    refine wpAnyM_oneS 12 rfl (by kernel_rfl) (fun K hK => ?_)
    go_simp
    have RC := reset_any c _ P 0 _ 4 4 (fun _ => v) _ (HS.out.j.upd.cellc HC.out) ((HS.out.j.upd.frozen hcb).trans HF.out) (Slc.of_blk HL.out.1) (by decide) (by decide); (refine RC.mono ?_); rintro e w9 ⟨rfl, hu⟩; clear RC HL; have HU := Lib.hid (HS.out.upd' hcb hu); clear HS hu; have HS := HU; clear HU; have HR := Lib.hid (jp_all HS.out.j (keepF V) (stepF P (rtF 0 4) (rtQ 0 (fun _ => v) 4)) TD)
    (try dsimp only)
    (try simp only [Act.put, nA, nB, nC])
    clear hHeld
    refine hK.out _ _ ?_ (fun hHeld => ?_)
    · first | exact ⟨HS.out.j.s, HS.out.j.p, HS.out.t⟩ | exact jp_k0 HS.out.j HS.out.t HS.out.lt.1 _ | exact jp_k1 HS.out.j HS.out.t HS.out.lt.1 _ _
    clear hK K
    (try simp only [Act.put, nA, nB, nC])
    clear hHeld
    refine wpAnyM_doneN 14 rfl (by kernel_rfl) (by rfl) (run_store_row 23 (.tmp 10) (.tmp 38) rfl _ rfl rfl HS.out.j.r0 ist) ?_ (fun hHeld => ?_)
    · first | exact ⟨HS.out.j.s, HS.out.j.p, HS.out.t⟩ | exact jp_k0 HS.out.j HS.out.t HS.out.lt.1 _ | exact jp_k1 HS.out.j HS.out.t HS.out.lt.1 _ _
    (try simp only [Act.put, nA, nB, nC])
    clear hHeld
    refine wpAnyM_doneN 15 rfl (by kernel_rfl) (by rfl) (run_store_row 26 (.tmp 11) (.tmp 46) rfl _ rfl rfl HR.out.1 icov) ?_ (fun hHeld => ?_)
    · first | exact ⟨HS.out.j.s, HS.out.j.p, HS.out.t⟩ | exact jp_k0 HS.out.j HS.out.t HS.out.lt.1 _ | exact jp_k1 HS.out.j HS.out.t HS.out.lt.1 _ _
    (try simp only [Act.put, nA, nB, nC])
    refine wpAnyM_doneL 16 rfl (by kernel_rfl) (by rfl) (by kernel_rfl) (run_store_row 42 (.tmp 12) (.tmp 47) rfl _ rfl rfl HR.out.2.1 itd) ?_
    (try simp only [Act.put, nA, nB, nC])
    refine wpAnyM_done (by kernel_rfl) ?_ _
    (go_wp2_with fail; exact bodyPost_ret_by (results_rows3 Tryz.results6 _ _ (w.heap.size + 1 + 1) (w.heap.size + 1 + 1 + 1) (w.heap.size + 1 + 1 + 1 + 1) 23 26 42 (arrv 24 (keepF V)) (arrv 300 (stepF P (rtF 0 4) (rtQ 0 (fun _ => v) 4))) (arrv 11 TD) (0, 0) (0, 0) (0, 0) _ _ _ rfl HR.out.2.2.1 Tryz.underlying23 rfl (ist.trans (by rw [arrv_size])) rfl HR.out.2.2.2.1 Tryz.underlying26 rfl (icov.trans (by rw [arrv_size])) rfl HR.out.2.2.2.2.1 Tryz.underlying42 rfl (itd.trans (by rw [arrv_size]))) rfl ⟨by rw [HE.out.1, HE.out.2.1], by rw [HE.out.2.2]; exact HR.out.2.2.2.2.2⟩)
end Go.Proofs.YtgfklheepkgedaaGreat
/- Contract of reset.Velocity. -/
namespace Go.Proofs.YtgfklheepkgedaaGreat
open Go.RowKit
set_option maxRecDepth 100000
set_option maxHeartbeats 16000000 in
theorem vel_any (c : Addr) (h : Bool) (S P : Nat → Int) (T : Nat → Int) (v : Int) (w : World) (hc : w.cell? c = some (.bool h)) (hf : w.frozen? c = false) :
    Calls Tryz.prog 8 #[.pointer (some c), .agg (arrv 24 S), .agg (arrv 300 P), .agg (arrv 3 T), .int .i64 v] w fun e w' =>
      e = .returned (.tuple #[.agg (arrv 24 (jpS S 4 T 3)), .agg (arrv 300 (stepF P (rtF 4 3) (rtQ 4 (fun _ => v) 3))), .agg (arrv 11 (midF (tdF dl0 2) 4 3 (mvD (keepF S) 4 T)))]) ∧
      Upd c (jpH h S 4 T 3 || orB (rtB 4 (fun _ => v)) 3 || stepH P (rtF 4 3) (rtQ 4 (fun _ => v) 3)) w w' := by
  have hcb := World.block_lt_of_cell? w c hc
  have S0 := Lib.hid (jp_startV c h S P T w hc)
  have HC := Lib.hid hc
  have HF := Lib.hid hf
  clear hc hf
  have EM := Lib.hid (show keepF (mvS (keepF S) 4 T 3) = jpS S 4 T 3 from rfl)
  have EH := Lib.hid (show (h || keepH S || orB (mvB (keepF S) 4 T) 3 || keepH (mvS (keepF S) 4 T 3)) = jpH h S 4 T 3 from rfl)
  go_enter Tryz.func8, Tryz.ntmps8
  go_upto_region 1 with fail
  obtain ⟨W0, hW0⟩ : ∃ x, (((((w.alloc (.cells (arrv 24 S) 23)).alloc (.cells (arrv 300 P) 26)).alloc (.cells (arrv 3 T) 28)).alloc (.cells #[.int .i64 0, .int .i64 0, .int .i64 0, .int .i64 0, .int .i64 0, .int .i64 0, .int .i64 0, .int .i64 0, .int .i64 0, .int .i64 0, .int .i64 0, .int .i64 0, .int .i64 0, .int .i64 0, .int .i64 0, .int .i64 0, .int .i64 0, .int .i64 0, .int .i64 0, .int .i64 0, .int .i64 0, .int .i64 0, .int .i64 0, .int .i64 0] 23)).alloc (.cells Tryz.zeroCells26 26)).alloc (.cells #[.int .i64 0, .int .i64 0, .int .i64 0, .int .i64 0, .int .i64 0, .int .i64 0, .int .i64 0, .int .i64 0, .int .i64 0, .int .i64 0, .int .i64 0] 42) = x := ⟨_, rfl⟩
  rw [hW0] at S0 ⊢
  clear hW0
  have HS := Lib.hid S0.out.1.drew
  have HV := Lib.hid (S0.out.2.below (Below.drew (Below.refl _ _)))
  clear S0
  refine wp_region_M (fun w' => Blk w' w.heap.size 23 24 S ∧ Blk w' (w.heap.size + 1 + 1) 28 3 T) 9 (by kernel_rfl) ?_ (fun hHeld => ?_)
  · exact ⟨HS.out.s, HV.out⟩
  refine wpAnyM_take 0 (v := ?_) rfl (by kernel_rfl) (fun _ _ _ h => h) (Or.inl ⟨by rfl, ?_⟩) (by assumption) ?_
  rotate_left
  · (intro wx hSw; (try dsimp only at hSw); go_simp; (try with_reducible rfl))
  (try simp only [Act.put, nA, nB, nC])
  refine wpAnyM_take 1 (v := ?_) rfl (by kernel_rfl) (fun _ _ _ h => h) (Or.inl ⟨by rfl, ?_⟩) (by assumption) ?_
  rotate_left
  · (intro wx hSw; (try dsimp only at hSw); go_simp; (try with_reducible rfl))
  (try simp only [Act.put, nA, nB, nC])
  refine wpAnyM_take 2 (v := ?_) rfl (by kernel_rfl) (fun _ _ _ h => h) (Or.inl ⟨by rfl, ?_⟩) (by assumption) ?_
  rotate_left
  · (intro wx hSw; refine Eq.trans (run_load_row 23 (.tmp 6) (by rfl) (w.heap.size) (by rfl) _ _ _ _ (hSw.1) Tryz.underlying23 rfl (ist.trans (by rw [arrv_size]))) ?_; with_reducible rfl)
  (try simp only [Act.put, nA, nB, nC])
  refine wpAnyM_take 4 (v := ?_) rfl (by kernel_rfl) (fun _ _ _ h => h) (Or.inl ⟨by rfl, ?_⟩) (by assumption) ?_
  rotate_left
  · (intro wx hSw; refine Eq.trans (run_slice_v (.tmp 8) (by rfl) (w.heap.size + 1 + 1) 0 (by rfl)) ?_; with_reducible rfl)
  (try simp only [Act.put, nA, nB, nC])
  refine wpAnyM_oneS 3 rfl (by kernel_rfl) (fun K hK => ?_)
  go_simp
  (refine (keep_any c h S _ (HS.out.upd.cellc HC.out) ((HS.out.upd.frozen hcb).trans HF.out)).mono ?_); rintro e w1 ⟨rfl, hu⟩; have HU := Lib.hid (HS.out.upd' hcb hu); clear HS; have HS := HU; clear HU; have HT := Lib.hid (HV.out.upd hu (by simp; omega)); clear HV hu; have HV := HT; clear HT
  (try dsimp only)
  (try simp only [Act.put, nA, nB, nC])
  clear hHeld
  refine hK.out _ _ ?_ (fun hHeld => ?_)
  · exact ⟨HS.out.s, HV.out⟩
  clear hK K
  (try simp only [Act.put, nA, nB, nC])
  refine wpAnyM_oneS 5 rfl (by kernel_rfl) (fun K hK => ?_)
  go_simp
  have MC := moved_any c (h || keepH S) (keepF S) 4 _ 3 3 T w1 (HS.out.upd.cellc HC.out) ((HS.out.upd.frozen hcb).trans HF.out) (Slc.of_blk HV.out) (by decide); have hz := HS.out.r2.lt; (rw [show ((4 : Nat) : Int) = 4 from rfl] at MC); (refine MC.mono ?_); (rw [EM.out, EH.out]); rintro e w3 ⟨v0, rfl, ho, hu⟩; clear MC; have HO := Lib.hid (ho.raise (B' := w.heap.size + 1 + 1 + 1 + 1 + 1 + 1) (by first | omega | (simp at hz ⊢; omega))); have HU := Lib.hid (HS.out.upd' hcb hu); have HT := Lib.hid (HV.out.upd hu (by simp; omega)); clear HV; have HV := HT; clear HT; clear HS hu ho hz; have HS := HU; clear HU
  (try dsimp only)
  (try simp only [Act.put, nA, nB, nC])
  clear hHeld
  refine hK.out _ _ ?_ (fun hHeld => ?_)
  · exact ⟨HS.out.s, HV.out⟩
  clear hK K
  (try simp only [Act.put, nA, nB, nC])
  refine wpAnyM_take 6 (v := ?_) rfl (by kernel_rfl) (fun _ _ _ h => h) (Or.inl ⟨by rfl, ?_⟩) (by assumption) ?_
  rotate_left
  · (intro wx hSw; (try dsimp only at hSw); go_simp; (try with_reducible rfl))
  (try simp only [Act.put, nA, nB, nC])
  refine wpAnyM_take 7 (v := ?_) rfl (by kernel_rfl) (fun _ _ _ h => h) (Or.inl ⟨by rfl, ?_⟩) (by assumption) ?_
  rotate_left
  · (intro wx hSw; (try dsimp only at hSw); go_simp; (try with_reducible rfl))
  (try simp only [Act.put, nA, nB, nC])
  refine wpAnyM_takeW 8 (v := ?_) rfl (by kernel_rfl) (fun _ _ _ h => h) (Or.inl ⟨by rfl, ?_⟩) (.inr (by assumption)) ?_
  rotate_left
  · (intro wx hSw; (try dsimp only at hSw); go_simp; (try with_reducible rfl))
  (try simp only [Act.put, nA, nB, nC])
  refine wpAnyM_doneL 9 rfl (by kernel_rfl) (by rfl) (by kernel_rfl) (run_store_row 23 (.tmp 6) (.tmp 22) rfl _ rfl rfl HS.out.s ist) ?_
  (try simp only [Act.put, nA, nB, nC])
  refine wpAnyM_takeW 10 (v := ?_) rfl (by kernel_rfl) (fun _ _ _ h => h) (Or.inl ⟨by rfl, ?_⟩) (.inl (by kernel_rfl)) ?_
  rotate_left
  · (intro wx hSw; (try dsimp only at hSw); go_simp; (try with_reducible rfl))
  (try simp only [Act.put, nA, nB, nC])
  refine wpAnyM_done (by kernel_rfl) ?_ _
  have H2 := Lib.hid (HS.out.rowS (jpS S 4 T 3))
  have O2 := Lib.hid (HO.out.rowk (k := w.heap.size) (arrv 24 (jpS S 4 T 3)) (by omega))
  generalize w3.setRow w.heap.size (arrv 24 (jpS S 4 T 3)) = W2 at *
  clear HS HO
  go_upto_region 2 with fail
  refine wp_region_lit ?_
  refine wpList_step (fun K hK => ?_)
  go_simp
  (refine (nothing_any _).mono ?_); rintro e w4 ⟨rfl, hb⟩; have H4 := Lib.hid (H2.out.down hb); have O4 := Lib.hid (O2.out.below hb); clear hb H2 O2
  (try dsimp only)
  (try simp only [Act.put, nA, nB, nC])
  refine hK _ _ ?_
  clear hK K
  refine wpList_val (v := ?_) rfl ?_ ?_
  rotate_left
  · (refine Eq.trans (run_build_td (.tmp 24) 2 (by rfl) (by rfl) (by rfl)) ?_; with_reducible rfl)
  (try simp only [Act.put, nA, nB, nC])
  refine wpList_act (v := ?_) (w' := ?_) rfl ?_ ?_
  rotate_left 2
  · (go_simp; (try (first | with_reducible rfl | (constructor <;> with_reducible rfl))))
  (try simp only [Act.put, nA, nB, nC])
  refine wpList_done (w' := ?_) rfl ?_ ?_
  rotate_left
  · (refine Eq.trans (run_store_row 42 (.tmp 14) (.tmp 25) (by rfl) (w4.heap.size) (by rfl) (by rfl) (show Blk (w4.alloc (.cells #[.int .i64 0, .int .i64 0, .int .i64 0, .int .i64 0, .int .i64 0, .int .i64 0, .int .i64 0, .int .i64 0, .int .i64 0, .int .i64 0, .int .i64 0] 42)) w4.heap.size 42 11 (fun _ => 0) by rw [ztd]; exact Blk.new _ _ _ _) (itd.trans rfl)) ?_; with_reducible rfl)
  (try simp only [Act.put, nA, nB, nC])
  refine wpList_nil ?_
  have NB := Lib.hid (jp_told H4.out O4.out (Nat.le_refl _) (tdF dl0 2))
  generalize (w4.alloc (.cells #[.int .i64 0, .int .i64 0, .int .i64 0, .int .i64 0, .int .i64 0, .int .i64 0, .int .i64 0, .int .i64 0, .int .i64 0, .int .i64 0, .int .i64 0] 42)).setRow w4.heap.size (arrv 11 (tdF dl0 2)) = W4 at *
  obtain ⟨tb, htb⟩ : ∃ x, w4.heap.size = x := ⟨_, rfl⟩
  rw [htb] at NB ⊢
  clear htb H4 O4
  go_upto_region 3 with fail
  refine wp_region_lit ?_
  refine wpList_val (v := ?_) rfl ?_ ?_
  rotate_left
  · (go_simp; (try (first | with_reducible rfl | (constructor <;> with_reducible rfl))))
  (try simp only [Act.put, nA, nB, nC])
  refine wpList_val (v := ?_) rfl ?_ ?_
  rotate_left
  · (go_simp; (try (first | with_reducible rfl | (constructor <;> with_reducible rfl))))
  (try simp only [Act.put, nA, nB, nC])
  refine wpList_val (v := ?_) rfl ?_ ?_
  rotate_left
  · (refine Eq.trans (run_slice_v (.tmp 27) (by rfl) tb 4 (by rfl)) ?_; with_reducible rfl)
  (try simp only [Act.put, nA, nB, nC])
  refine wpList_val (v := ?_) rfl ?_ ?_
  rotate_left
  · (go_simp; (try (first | with_reducible rfl | (constructor <;> with_reducible rfl))))
  (try simp only [Act.put, nA, nB, nC])
  (refine wpList_copy_mid rfl (.tmp 28) (.tmp 29) rfl tb 4 3 3 rfl 3 (mvD (keepF S) 4 T) rfl NB.out.2.1 (by decide) (by decide) (by decide) 42 11 (tdF dl0 2) NB.out.2.2.1 (by decide) ?_)
  refine wpList_nil ?_
  obtain ⟨TD, hTD⟩ : ∃ x, midF (tdF dl0 2) 4 3 (mvD (keepF S) 4 T) = x := ⟨_, rfl⟩
  rw [hTD]
  have HTD := Lib.hid hTD
  have N2 := Lib.hid (jp_set NB.out.1 NB.out.2.2.1 NB.out.2.2.2 TD)
  generalize W4.setRow tb (arrv 11 TD) = W5 at *
  clear NB hTD
  obtain ⟨MS, hMS⟩ : ∃ x, jpS S 4 T 3 = x := ⟨_, rfl⟩
  obtain ⟨MH, hMH⟩ : ∃ x, jpH h S 4 T 3 = x := ⟨_, rfl⟩
  rw [hMS, hMH] at N2
  have HMM := Lib.hid (And.intro hMS hMH)
  clear hMS hMH EM EH
  go_upto_region 4 with fail
  have HS := Lib.hid (jp_drew N2.out)
  clear N2
  refine wp_region_M (fun w' => Blk w' w.heap.size 23 24 MS ∧ Blk w' (w.heap.size + 1) 26 300 P ∧ Blk w' tb 42 11 TD) 11 (by kernel_rfl) ?_ (fun hHeld => ?_)
  · exact ⟨HS.out.1.s, HS.out.1.p, HS.out.2.1⟩
  refine wpAnyM_take 0 (v := ?_) rfl (by kernel_rfl) (fun _ _ _ h => h) (Or.inl ⟨by rfl, ?_⟩) (by assumption) ?_
  rotate_left
  · (intro wx hSw; refine Eq.trans (run_load_row 23 (.tmp 6) (by rfl) (w.heap.size) (by rfl) _ _ _ _ (hSw.1) Tryz.underlying23 rfl (ist.trans (by rw [arrv_size]))) ?_; with_reducible rfl)
  (try simp only [Act.put, nA, nB, nC])
  refine wpAnyM_take 1 (v := ?_) rfl (by kernel_rfl) (fun _ _ _ h => h) (Or.inl ⟨by rfl, ?_⟩) (by assumption) ?_
  rotate_left
  · (intro wx hSw; (try dsimp only at hSw); go_simp; (try with_reducible rfl))
  (try simp only [Act.put, nA, nB, nC])
  refine wpAnyM_take 2 (v := ?_) rfl (by kernel_rfl) (fun _ _ _ h => h) (Or.inl ⟨by rfl, ?_⟩) (by assumption) ?_
  rotate_left
  · (intro wx hSw; refine Eq.trans (run_load_row 26 (.tmp 7) (by rfl) (w.heap.size + 1) (by rfl) _ _ _ _ (hSw.2.1) Tryz.underlying26 rfl (icov.trans (by rw [arrv_size]))) ?_; with_reducible rfl)
  (try simp only [Act.put, nA, nB, nC])
  refine wpAnyM_take 3 (v := ?_) rfl (by kernel_rfl) (fun _ _ _ h => h) (Or.inl ⟨by rfl, ?_⟩) (by assumption) ?_
  rotate_left
  · (intro wx hSw; (try dsimp only at hSw); go_simp; (try with_reducible rfl))
  (try simp only [Act.put, nA, nB, nC])
  refine wpAnyM_take 4 (v := ?_) rfl (by kernel_rfl) (fun _ _ _ h => h) (Or.inl ⟨by rfl, ?_⟩) (by assumption) ?_
  rotate_left
  · (intro wx hSw; (try dsimp only at hSw); go_simp; (try with_reducible rfl))
  (try simp only [Act.put, nA, nB, nC])
  refine wpAnyM_take 5 (v := ?_) rfl (by kernel_rfl) (fun _ _ _ h => h) (Or.inl ⟨by rfl, ?_⟩) (by assumption) ?_
  rotate_left
  · (intro wx hSw; (try dsimp only at hSw); go_simp; (try with_reducible rfl))
  (try simp only [Act.put, nA, nB, nC])
  refine wpAnyM_take 8 (v := ?_) rfl (by kernel_rfl) (fun _ _ _ h => h) (Or.inl ⟨by rfl, ?_⟩) (by assumption) ?_
  rotate_left
  · (intro wx hSw; refine Eq.trans (run_load_row 42 (.tmp 14) (by rfl) (tb) (by rfl) _ _ _ _ (hSw.2.2) Tryz.underlying42 rfl (itd.trans (by rw [arrv_size]))) ?_; with_reducible rfl)
  (try simp only [Act.put, nA, nB, nC])
  refine wpAnyM_oneS 6 rfl (by kernel_rfl) (fun K hK => ?_)
  go_simp; have HL := Lib.hid (slc_v3 W5.drew v); have HU := Lib.hid (jp_down HS.out ((Below.refl _ _).alloc (Nat.le_refl _) (.cells #[.int .i64 v, .int .i64 v, .int .i64 v] 2))); clear HS; have HS := HU; clear HU
  clear hHeld
  refine hK.out _ _ ?_ (fun hHeld => ?_)
  · exact ⟨HS.out.1.s, HS.out.1.p, HS.out.2.1⟩
  clear hK K
  (try simp only [Act.put, nA, nB, nC])
  refine wpAnyM_oneS 7 rfl (by kernel_rfl) (fun K hK => ?_)
  go_simp
  have RC := reset_any c MH P 4 _ 3 3 (fun _ => v) (W5.drew.alloc (.cells #[.int .i64 v, .int .i64 v, .int .i64 v] 2)) (HS.out.1.upd.cellc HC.out) ((HS.out.1.upd.frozen hcb).trans HF.out) HL.out (by decide) (by decide); (refine RC.mono ?_); rintro e w6 ⟨rfl, hu⟩; clear RC HL; have HU := Lib.hid (jp_upd HS.out hcb hu); clear HS hu; have HS := HU; clear HU; have HR := Lib.hid (jp_all HS.out.1 MS (stepF P (rtF 4 3) (rtQ 4 (fun _ => v) 3)) TD)
  (try dsimp only)
  (try simp only [Act.put, nA, nB, nC])
  clear hHeld
  refine hK.out _ _ ?_ (fun hHeld => ?_)
  · exact ⟨HS.out.1.s, HS.out.1.p, HS.out.2.1⟩
  clear hK K
  (try simp only [Act.put, nA, nB, nC])
  clear hHeld
  refine wpAnyM_doneN 9 rfl (by kernel_rfl) (by rfl) (run_store_row 23 (.tmp 10) (.tmp 31) rfl _ rfl rfl HS.out.1.r0 ist) ?_ (fun hHeld => ?_)
  · exact (jp_k0 HS.out.1 HS.out.2.1 HS.out.2.2 MS)
  (try simp only [Act.put, nA, nB, nC])
  clear hHeld
  refine wpAnyM_doneN 10 rfl (by kernel_rfl) (by rfl) (run_store_row 26 (.tmp 11) (.tmp 38) rfl _ rfl rfl HR.out.1 icov) ?_ (fun hHeld => ?_)
  · exact (jp_k1 HS.out.1 HS.out.2.1 HS.out.2.2 MS _)
  (try simp only [Act.put, nA, nB, nC])
  refine wpAnyM_doneL 11 rfl (by kernel_rfl) (by rfl) (by kernel_rfl) (run_store_row 42 (.tmp 12) (.tmp 39) rfl _ rfl rfl HR.out.2.1 itd) ?_
  (try simp only [Act.put, nA, nB, nC])
  refine wpAnyM_done (by kernel_rfl) ?_ _
  go_wp2_with fail
  refine bodyPost_ret_by (results_rows3 Tryz.results8 _ _ (w.heap.size + 1 + 1 + 1) (w.heap.size + 1 + 1 + 1 + 1) (w.heap.size + 1 + 1 + 1 + 1 + 1) 23 26 42 (arrv 24 MS) (arrv 300 (stepF P (rtF 4 3) (rtQ 4 (fun _ => v) 3))) (arrv 11 TD) (0, 0) (0, 0) (0, 0) _ _ _ rfl HR.out.2.2.1 Tryz.underlying23 rfl (ist.trans (by rw [arrv_size])) rfl HR.out.2.2.2.1 Tryz.underlying26 rfl (icov.trans (by rw [arrv_size])) rfl HR.out.2.2.2.2.1 Tryz.underlying42 rfl (itd.trans (by rw [arrv_size]))) rfl ⟨?_, ?_⟩
  · rw [HTD.out, HMM.out.1]
  · rw [HMM.out.2]; exact HR.out.2.2.2.2.2
end Go.Proofs.YtgfklheepkgedaaGreat
