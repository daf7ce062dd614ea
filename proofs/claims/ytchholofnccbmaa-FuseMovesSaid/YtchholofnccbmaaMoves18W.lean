/- The walk of FuseMoves. -/
import Derived.Test.YtchholofnccbmaaQ19
import Derived.Test.YtchholofnccbmaaMv18P
import Derived.Test.YtchholofnccbmaaReg4
import Derived.Deep.QuietTactic
import Derived.BigQuiet
namespace Go.Proofs.Ytchholofnccbmaa
open Go.RowKit
set_option maxRecDepth 100000
structure MvR (bc pb sb : Nat) (P : Nat → Int) (h : Bool) (w wr : World) : Prop where
  below : Below w.heap.size w wr
  flg : Flg wr bc h
  p : Blk wr pb 30 300 P
  s : Blk wr sb 27 24 awS
  ord : w.heap.size ≤ bc ∧ bc < pb ∧ pb < sb
section
variable {bc pb sb : Nat} {P : Nat → Int} {h : Bool} {w wr w' : World}
theorem MvR.down (a : MvR bc pb sb P h w wr) (u : Below wr.heap.size wr w') : MvR bc pb sb P h w w' := ⟨Below.after a.below u, a.flg.below u, a.p.below u, a.s.below u, a.ord⟩
theorem MvR.alloc (a : MvR bc pb sb P h w wr) (o : Obj) : MvR bc pb sb P h w (wr.alloc o) := a.down ((Below.refl _ _).alloc (Nat.le_refl _) o)
theorem MvR.drew (a : MvR bc pb sb P h w wr) : MvR bc pb sb P h w wr.drew := ⟨a.below.drew, a.flg, a.p, a.s, a.ord⟩
theorem MvR.drews (a : MvR bc pb sb P h w wr) (n : Nat) : MvR bc pb sb P h w (wr.drewN n) := ⟨below_drewN a.below n, a.flg, a.p, a.s, a.ord⟩
theorem MvR.upd (a : MvR bc pb sb P h w wr) {g : Bool} (u : Upd ⟨bc, 0, none⟩ g wr w') : MvR bc pb sb P g w w' := by
  have o := a.ord
  exact ⟨own_upd a.below o.1 u, a.flg.hit u, a.p.upd u (by show pb ≠ bc; omega), a.s.upd u (by show sb ≠ bc; omega), o⟩
theorem MvR.row (a : MvR bc pb sb P h w wr) {b : Nat} (hb : sb < b) (cs : Array Value) : MvR bc pb sb P h w (wr.setRow b cs) := by
  have o := a.ord
  exact ⟨below_row a.below (by omega) _, a.flg.row _ (by omega), a.p.setRow_other _ (by omega), a.s.setRow_other _ (by omega), o⟩
theorem MvR.cell (a : MvR bc pb sb P h w wr) {x : Addr} (hb : sb < x.block) (v : Value) : MvR bc pb sb P h w (wr.setCell x v) := by
  have o := a.ord
  exact ⟨a.below.setCell (by omega) _, a.flg.other (by show bc ≠ x.block; omega) _, a.p.other (by omega) _, a.s.other (by omega) _, o⟩
theorem mv_st (a : MvR bc pb sb P h w wr) (b : Nat) (hb : wr.heap.size = b) : Blk (wr.alloc (.cells #[.int .i64 0, .int .i64 0, .int .i64 0, .int .i64 0, .int .i64 0, .int .i64 0, .int .i64 0, .int .i64 0, .int .i64 0, .int .i64 0, .int .i64 0, .int .i64 0, .int .i64 0, .int .i64 0, .int .i64 0, .int .i64 0, .int .i64 0, .int .i64 0, .int .i64 0, .int .i64 0, .int .i64 0, .int .i64 0, .int .i64 0, .int .i64 0] 27)) b 27 24 (fun _ => 0) ∧ sb < b := by
  subst hb
  rw [zvec24]; exact ⟨Blk.new wr _ 24 _, a.s.lt⟩
theorem mv_cov (a : MvR bc pb sb P h w wr) (b : Nat) (hb : wr.heap.size = b) : Blk (wr.alloc (.cells Try.zeroCells30 30)) b 30 300 (fun _ => 0) ∧ sb < b := by
  subst hb
  rw [zcov]; exact ⟨Blk.new wr _ _ _, a.s.lt⟩
theorem mv_res (a : MvR bc pb sb P h w wr) (b : Nat) (hb : wr.heap.size = b) : Res (wr.alloc (.cells #[.bool false, .int .i64 0, .int .i64 0] 43)) b false 0 0 ∧ sb < b := by
  subst hb
  exact ⟨Res.new wr false 0 0, a.s.lt⟩
theorem mv_slc (_a : MvR bc pb sb P h w wr) (x : Int) (b : Nat) (hb : wr.heap.size = b) : Slc (wr.alloc (.cells #[.int .i64 x] 3)) (some ⟨b, 0, none⟩) 1 (fun _ => x) := by
  subst hb
  intro i hi
  obtain rfl : i = 0 := by omega
  exact ⟨_, _, rfl, by simp [go_sem]⟩
end
theorem res_ne {wr : World} {b b' T n : Nat} {f : Nat → Int} {t : Bool} {y s : Int} (h : Blk wr b T n f) (h' : Res wr b' t y s) (hT : T ≠ 43) : b ≠ b' := fun e => by
  subst e
  unfold Blk at h
  unfold Res at h'
  rw [h] at h'
  injection h' with h'
  injection h' with _ h2 _
  exact hT h2
open Go in
/-- An observation built of a row, a number, its variance and its gate. -/
theorem run_build_obs4 {o : Oper} {ev : Operand → Value} {w : World} (x y z u : Operand) (ho : o.op = .build 47 #[(0, x), (1, y), (2, z), (3, u)]) {H : Nat → Int} {m r g : Int} (hx : ev x = .agg (arrv 24 H)) (hy : ev y = .int .i64 m) (hz : ev z = .int .i64 r) (hu : ev u = .int .i64 g) :
    (execOp ev o).run Try.prog w = .ok (.value (.agg (arrv 27 (obF H m r g)))) w := by
  unfold execOp
  simp only [ho, List.map_toArray, List.map_cons, List.map_nil, hx, hy, hz, hu]
  kernel_rfl
set_option maxHeartbeats 8000000 in
theorem moves18_noop (k y d r : Int) (w : World) (h : k < 7 ∨ 10 ≤ k ∨ y < -35184372088832 ∨ 35184372088832 < y ∨ d < 1048576 ∨ 72057594037927936 < d ∨ r < 1048576 ∨ 72057594037927936 < r) :
    Calls Try.prog 7 #[.int .i64 k, .int .i64 y, .int .i64 d, .int .i64 r] w fun e w' => e = .returned (.bool true) ∧ Below w.heap.size w w' := by
  go_enter Try.func7, Try.ntmps7
  go_upto_region 5 with (go_at_call 9; (refine (awake18_any _).mono ?_); rintro e w1 ⟨rfl, hb1⟩)
  all_goals (first | (exfalso; omega) | (go_wp2_with fail; go_ret; exact ⟨rfl, hb1⟩))
set_option maxHeartbeats 8000000 in
theorem moves18_yes (k : Nat) (y d r : Int) (w : World) (h7 : 7 ≤ k) (h10 : k < 10) (hy : -35184372088832 ≤ y ∧ y ≤ 35184372088832) (hd : 1048576 ≤ d ∧ d ≤ 72057594037927936) (hr : 1048576 ≤ r ∧ r ≤ 72057594037927936) :
    Calls Try.prog 7 #[.int .i64 k, .int .i64 y, .int .i64 d, .int .i64 r] w fun e w' => e = .returned (.bool true) ∧ Below w.heap.size w w' := by
  have LL := Lib.hid (mv_law h7 h10 hy hd hr)
  have LB := Lib.hid (mv_bd hy (d := d) (r := r) (by omega) (by omega))
  have t1 : decide ((k : Int) < 7) = false := by simp; omega
  have t2 : decide (10 ≤ (k : Int)) = false := by simp; omega
  have t3 : decide (y < -35184372088832) = false := by simp; omega
  have t4 : decide (35184372088832 < y) = false := by simp; omega
  have t5 : decide (d < 1048576) = false := by simp; omega
  have t6 : decide (72057594037927936 < d) = false := by simp; omega
  have t7 : decide (r < 1048576) = false := by simp; omega
  have t8 : decide (72057594037927936 < r) = false := by simp; omega
  go_enter Try.func7, Try.ntmps7
  go_upto_region 5 with (go_at_call 9; (refine (awake18_any _).mono ?_); rintro e w1 ⟨rfl, hb1⟩; have B1 := Lib.hid hb1; clear hb1)
  obtain ⟨bc, hbc⟩ : ∃ x, w1.heap.size = x := ⟨_, rfl⟩
  have hbw : w.heap.size ≤ bc := by rw [← hbc]; exact B1.out.size
  have F2 := Lib.hid (show Flg (w1.alloc (.cells #[.bool false] 25)) bc false by rw [← hbc]; exact Flg.new w1 false)
  have B2 := Lib.hid (B1.out.alloc B1.out.size (.cells #[.bool false] 25))
  have HBC := Lib.hid hbc
  clear hbc
  go_upto_region 6 with fail
  (try rw [HBC.out])
  generalize w1.alloc (.cells #[.bool false] 25) = W2 at *
  clear HBC B1 t1 t2 t3 t4 t5 t6 t7 t8
  have N2 := Lib.hid (new_any ⟨bc, 0, none⟩ false none 0 0 (fun _ => 0) W2 F2.out.cell F2.out.free (fun i hi => by omega))
  go_upto_region 7 with (first | (go_at_call 11; (refine N2.out.mono ?_); rintro e w3 ⟨rfl, hu3⟩; (rw [newH_0] at hu3); replace hu3 : Upd ⟨bc, 0, none⟩ false W2 w3 := hu3; have F3 := Lib.hid (F2.out.hit hu3); have B3 := Lib.hid (own_upd B2.out hbw hu3); have R3 : Blk (w3.alloc (.cells Try.zeroCells30 30)) w3.heap.size 30 300 (fun _ => 0) := (by rw [zcov]; exact Blk.new _ _ _ _); clear hu3) | (refine wpList_store_row rfl 30 _ _ rfl (w3.heap.size) _ rfl rfl 30 _ (R3) (icov.trans (by rw [arrv_size])) (by rw [arrv_size, arrv_size]) (oneCell_arrv _ _) ?_))
  obtain ⟨w4, hw4⟩ : ∃ x, x = ((w3.alloc (.cells Try.zeroCells30 30)).setRow w3.heap.size (arrv 300 (newF 0 (fun _ => 0)))) := ⟨_, rfl⟩
  rw [← hw4]
  obtain ⟨M4, MB4⟩ := Blk.made zcov (newF 0 (fun _ => 0)) hw4
  have F4 := Lib.hid (F3.out.below MB4)
  have B4 := Lib.hid (Below.after B3.out MB4)
  have hb4 : bc < w3.heap.size := F3.out.lt
  obtain ⟨pb, hbp⟩ : ∃ x, w3.heap.size = x := ⟨_, rfl⟩
  rw [hbp] at M4 hb4 ⊢
  have m0 := M4.cell (i := 276 + k) (by omega)
  have m1 := M4.free (276 + k)
  clear hw4 R3 F2 B2 N2 F3 B3 MB4 hbp
  go_upto_region 8 with fail
  have P5 := Lib.hid (show Blk (w4.setCell ⟨pb, 276 + k, none⟩ (.int .i64 d)) pb 30 300 (onP k d) from M4.set _ _)
  have F5 := Lib.hid (F4.out.other (a := ⟨pb, 276 + k, none⟩) (by show bc ≠ pb; omega) (.int .i64 d))
  have B5 := Lib.hid (B4.out.setCell (p := ⟨pb, 276 + k, none⟩) (by show w.heap.size ≤ pb; omega) (.int .i64 d))
  generalize w4.setCell ⟨pb, 276 + k, none⟩ (.int .i64 d) = W5 at *
  clear m0 m1 M4 F4 B4
  have hpb : pb < W5.heap.size := P5.out.lt
  have R5 : Blk (W5.alloc (.cells #[.int .i64 0, .int .i64 0, .int .i64 0, .int .i64 0, .int .i64 0, .int .i64 0, .int .i64 0, .int .i64 0, .int .i64 0, .int .i64 0, .int .i64 0, .int .i64 0, .int .i64 0, .int .i64 0, .int .i64 0, .int .i64 0, .int .i64 0, .int .i64 0, .int .i64 0, .int .i64 0, .int .i64 0, .int .i64 0, .int .i64 0, .int .i64 0] 27)) W5.heap.size 27 24 (fun _ => 0) := by rw [zvec24]; exact Blk.new _ _ 24 _
  go_upto_region 9 with (rw [aw24]; (refine wpList_store_row rfl 27 _ _ rfl (W5.heap.size) _ rfl rfl 27 _ (R5) (ist.trans (by rw [arrv_size])) (by rw [arrv_size, arrv_size]) (oneCell_arrv _ _) ?_))
  obtain ⟨w6, hw6⟩ : ∃ x, x = ((W5.alloc (.cells #[.int .i64 0, .int .i64 0, .int .i64 0, .int .i64 0, .int .i64 0, .int .i64 0, .int .i64 0, .int .i64 0, .int .i64 0, .int .i64 0, .int .i64 0, .int .i64 0, .int .i64 0, .int .i64 0, .int .i64 0, .int .i64 0, .int .i64 0, .int .i64 0, .int .i64 0, .int .i64 0, .int .i64 0, .int .i64 0, .int .i64 0, .int .i64 0] 27)).setRow W5.heap.size (arrv 24 awS)) := ⟨_, rfl⟩
  rw [← hw6]
  obtain ⟨M6, MB6⟩ := Blk.made (T := 27) zvec24 awS hw6
  obtain ⟨sb, hsb⟩ : ∃ x, W5.heap.size = x := ⟨_, rfl⟩
  rw [hsb] at M6 hpb ⊢
  have HS := Lib.hid (MvR.drew (⟨Below.after B5.out MB6, F5.out.below MB6, P5.out.below MB6, M6, hbw, hb4, hpb⟩ : MvR bc pb sb (onP k d) false w w6))
  clear hw6 R5 MB6 M6 B5 F5 P5 hsb hbw hb4 hpb
  have OM := Lib.hid (fun (x : World) (k1 : x.cell? ⟨bc, 0, none⟩ = some (.bool false)) (k2 : x.frozen? ⟨bc, 0, none⟩ = false) => fuone_any ⟨bc, 0, none⟩ false awS (onP k d) (obF (pkF k) y r 1000) x k1 k2 (by rw [(obF_y (pkF k) y r 1000).2.2]; omega))
  have EN := Lib.hid (show pkS (fun _ => (k : Int)) 1 = pkF k from pkS_1 (by omega))
  have PD := Lib.hid (fun i => onP_D (k := k) (d := d) i)
  obtain ⟨O, hO⟩ : ∃ x, obF (pkF k) y r 1000 = x := ⟨_, rfl⟩
  have OB := Lib.hid hO
  simp only [hO] at OM LL
  obtain ⟨P, hP⟩ : ∃ x, onP k d = x := ⟨_, rfl⟩
  simp only [hP] at OM LL HS PD
  obtain ⟨A, hA⟩ : ∃ x, foSt awS P O = x := ⟨_, rfl⟩
  obtain ⟨Q, hQ⟩ : ∃ x, foPt P O = x := ⟨_, rfl⟩
  obtain ⟨T, hT⟩ : ∃ x, foL P O = x := ⟨_, rfl⟩
  obtain ⟨Y, hY⟩ : ∃ x, foY O = x := ⟨_, rfl⟩
  obtain ⟨X, hX⟩ : ∃ x, foS P O = x := ⟨_, rfl⟩
  obtain ⟨FL, hFL⟩ : ∃ x, foFl awS P O = x := ⟨_, rfl⟩
  simp only [hA, hQ, hT, hY, hX, hFL, Bool.false_or] at OM
  rw [hA, hQ, hT, hFL] at LL
  clear hO hP hA hQ hT hY hX hFL
  obtain ⟨MV, hMV⟩ : ∃ x, mvV y d r = x := ⟨_, rfl⟩
  rw [hMV] at LL LB
  obtain ⟨DV, hDV⟩ : ∃ x, mdivV d r (d + r) = x := ⟨_, rfl⟩
  rw [hDV] at LL
  clear hMV hDV
  simp only [Act.put]
  go_cut [12, 13, 14] from 58 to 71 (fun s12 s13 s14 wx => ∃ ta tq tr, s12 = .pointer (some ⟨ta, 0, none⟩) ∧ s13 = .pointer (some ⟨tq, 0, none⟩) ∧ s14 = .pointer (some ⟨tr, 0, none⟩) ∧ Hid (MvR bc pb sb P FL w wx ∧ Blk wx ta 27 24 A ∧ Blk wx tq 30 300 Q ∧ Res wx tr T Y X))
  case first =>
    refine wp_region_M (fun w' => Blk w' sb 27 24 awS ∧ Blk w' pb 30 300 P) 19 (by kernel_rfl) ?_ (fun hHeld => ?_)
    · exact ⟨HS.out.s, HS.out.p⟩
    obtain ⟨wx, hwx⟩ : ∃ x, w6.drew = x := ⟨_, rfl⟩; rw [hwx] at HS hHeld ⊢; clear hwx
    clear hHeld
    revert HS
    revert wx
    refine share (T := ?_) (fun SH25 => ?_) ?sp25
    rotate_left
    refine share (T := ?_) (fun SH24 => ?_) ?sp24
    rotate_left
    refine share (T := ?_) (fun SH23 => ?_) ?sp23
    rotate_left
    refine share (T := ?_) (fun SH22 => ?_) ?sp22
    rotate_left
    refine share (T := ?_) (fun SH21 => ?_) ?sp21
    rotate_left
    refine share (T := ?_) (fun SH20 => ?_) ?sp20
    rotate_left
    refine share (T := ?_) (fun SH19 => ?_) ?sp19
    rotate_left
    refine share (T := ?_) (fun SH18 => ?_) ?sp18
    rotate_left
    refine share (T := ?_) (fun SH17 => ?_) ?sp17
    rotate_left
    refine share (T := ?_) (fun SH16 => ?_) ?sp16
    rotate_left
    refine share (T := ?_) (fun SH15 => ?_) ?sp15
    rotate_left
    refine share (T := ?_) (fun SH14 => ?_) ?sp14
    rotate_left
    refine share (T := ?_) (fun SH13 => ?_) ?sp13
    rotate_left
    refine share (T := ?_) (fun SH12 => ?_) ?sp12
    rotate_left
    refine share (T := ?_) (fun SH11 => ?_) ?sp11
    rotate_left
    refine share (T := ?_) (fun SH10 => ?_) ?sp10
    rotate_left
    refine share (T := ?_) (fun SH9 => ?_) ?sp9
    rotate_left
    refine share (T := ?_) (fun SH8 => ?_) ?sp8
    rotate_left
    refine share (T := ?_) (fun SH7 => ?_) ?sp7
    rotate_left
    refine share (T := ?_) (fun SH6 => ?_) ?sp6
    rotate_left
    refine share (T := ?_) (fun SH5 => ?_) ?sp5
    rotate_left
    refine share (T := ?_) (fun SH4 => ?_) ?sp4
    rotate_left
    refine share (T := ?_) (fun SH3 => ?_) ?sp3
    rotate_left
    refine share (T := ?_) (fun SH2 => ?_) ?sp2
    rotate_left
    refine share (T := ?_) (fun SH1 => ?_) ?sp1
    rotate_left
    · intro wx  HS
      have hHeld : (((fun w' => Blk w' sb 27 24 awS ∧ Blk w' pb 30 300 P)) wx) := by exact ⟨HS.out.s, HS.out.p⟩
      refine wpAnyM_take 0 (v := ?_) rfl (by kernel_rfl) (fun _ _ _ h => h) (Or.inl ⟨by rfl, ?_⟩) (by assumption) ?_
      rotate_left
      · (intro wz hSw; (try dsimp only at hSw); go_simp; (try with_reducible rfl))
      (try simp only [Act.put, List.setIfInBounds_toArray, List.set_cons_zero, List.set_cons_succ])
      refine wpAnyM_take 1 (v := ?_) rfl (by kernel_rfl) (fun _ _ _ h => h) (Or.inl ⟨by rfl, ?_⟩) (by assumption) ?_
      rotate_left
      · (intro wz hSw; refine Eq.trans (run_load_row 27 (.tmp 11) (by rfl) (sb) (by rfl) _ _ _ _ (hSw.1) Try.underlying27 rfl (ist.trans (by rw [arrv_size]))) ?_; with_reducible rfl)
      (try simp only [Act.put, List.setIfInBounds_toArray, List.set_cons_zero, List.set_cons_succ])
      refine wpAnyM_take 2 (v := ?_) rfl (by kernel_rfl) (fun _ _ _ h => h) (Or.inl ⟨by rfl, ?_⟩) (by assumption) ?_
      rotate_left
      · (intro wz hSw; refine Eq.trans (run_load_row 30 (.tmp 10) (by rfl) (pb) (by rfl) _ _ _ _ (hSw.2) Try.underlying30 rfl (icov.trans (by rw [arrv_size]))) ?_; with_reducible rfl)
      (try simp only [Act.put, List.setIfInBounds_toArray, List.set_cons_zero, List.set_cons_succ])
      refine wpAnyM_take 3 (v := ?_) rfl (by kernel_rfl) (fun _ _ _ h => h) (Or.inl ⟨by rfl, ?_⟩) (by assumption) ?_
      rotate_left
      · (intro wz hSw; (try dsimp only at hSw); go_simp; (try with_reducible rfl))
      (try simp only [Act.put, List.setIfInBounds_toArray, List.set_cons_zero, List.set_cons_succ])
      refine wpAnyM_take 6 (v := ?_) rfl (by kernel_rfl) (fun _ _ _ h => h) (Or.inl ⟨by rfl, ?_⟩) (by assumption) ?_
      rotate_left
      · (intro wz hSw; (try dsimp only at hSw); go_simp; (try with_reducible rfl))
      (try simp only [Act.put, List.setIfInBounds_toArray, List.set_cons_zero, List.set_cons_succ])
      refine wpAnyM_take 7 (v := ?_) rfl (by kernel_rfl) (fun _ _ _ h => h) (Or.inl ⟨by rfl, ?_⟩) (by assumption) ?_
      rotate_left
      · (intro wz hSw; (try dsimp only at hSw); go_simp; (try with_reducible rfl))
      (try simp only [Act.put, List.setIfInBounds_toArray, List.set_cons_zero, List.set_cons_succ])
      clear hHeld
      refine wpAnyM_fourS 4 14 15 16 rfl rfl rfl rfl (by kernel_rfl) (fun K hK => ?_) (fun K hK => ?_) (fun K hK => ?_) (fun K hK => ?_)
      · go_simp; obtain ⟨b4, hb⟩ : ∃ x, wx.heap.size = x := ⟨_, rfl⟩; have HL := Lib.hid (mv_slc HS.out (k : Int) b4 hb); have hBB := (Below.refl wx.heap.size wx).alloc (Nat.le_refl _) (.cells #[.int .i64 (k : Int)] 3); (try (have HA2 := Lib.hid (And.intro (HA.out.1.below hBB) HA.out.2); clear HA; have HA := HA2; clear HA2)); (try (have HR2 := Lib.hid (And.intro (HR.out.1.below hBB) HR.out.2); clear HR; have HR := HR2; clear HR2)); (try (have HZ2 := Lib.hid (And.intro (HZ.out.1.below hBB) HZ.out.2); clear HZ; have HZ := HZ2; clear HZ2)); have HS2 := Lib.hid (HS.out.down hBB); clear HS; have HS := HS2; clear HS2 hBB; (rw [hb]); clear hb; generalize wx.alloc (.cells #[.int .i64 (k : Int)] 3) = wn at *
        refine hK.out _ _ ?_ (fun hHeld => ?_)
        · exact ⟨HS.out.s, HS.out.p⟩
        clear hK K
        (try simp only [Act.put, List.setIfInBounds_toArray, List.set_cons_zero, List.set_cons_succ])
        clear hHeld
        revert HL
        revert HS
        revert b4
        revert wn
        intro wx b4 HS HL
        refine wpAnyM_fourS 5 14 15 16 rfl rfl rfl rfl (by kernel_rfl) (fun K hK => ?_) (fun K hK => ?_) (fun K hK => ?_) (fun K hK => ?_)
        · go_simp
          (refine (pick_any _ 1 _ (fun _ => (k : Int)) _ HL.out (by omega)).mono ?_); rintro e wn ⟨rfl, hb6⟩; (rw [EN.out]); have HS2 := Lib.hid (HS.out.down hb6); clear HS; have HS := HS2; clear HS2 HL; (try (have HA2 := Lib.hid (And.intro (HA.out.1.below hb6) HA.out.2); clear HA; have HA := HA2; clear HA2)); (try (have HR2 := Lib.hid (And.intro (HR.out.1.below hb6) HR.out.2); clear HR; have HR := HR2; clear HR2)); (try (have HZ2 := Lib.hid (And.intro (HZ.out.1.below hb6) HZ.out.2); clear HZ; have HZ := HZ2; clear HZ2)); clear hb6
          (try dsimp only)
          (try simp only [Act.put, List.setIfInBounds_toArray, List.set_cons_zero, List.set_cons_succ])
          refine hK.out _ _ ?_ (fun hHeld => ?_)
          · exact ⟨HS.out.s, HS.out.p⟩
          clear hK K
          (try simp only [Act.put, List.setIfInBounds_toArray, List.set_cons_zero, List.set_cons_succ])
          refine wpAnyM_take 8 (v := ?_) rfl (by kernel_rfl) (fun _ _ _ h => h) (Or.inl ⟨by rfl, ?_⟩) (by assumption) ?_
          rotate_left
          · (intro wz hSw; refine Eq.trans (run_build_obs4 (.tmp 64) (.tmp 65) (.tmp 66) (.const (.int .i64 1000)) (by rfl) (by rfl) (by rfl) (by rfl) (by rfl)) ?_; rw [OB.out])
          (try simp only [Act.put, List.setIfInBounds_toArray, List.set_cons_zero, List.set_cons_succ])
          clear hHeld
          revert HS
          revert b4
          revert wn
          intro wx b4 HS
          refine wpAnyM_fourS 9 14 15 16 rfl rfl rfl rfl (by kernel_rfl) (fun K hK => ?_) (fun K hK => ?_) (fun K hK => ?_) (fun K hK => ?_)
          · go_simp
            (refine (OM.out _ HS.out.flg.cell HS.out.flg.free).mono ?_); rintro e wn ⟨rfl, hu7⟩; (try (have HA2 := Lib.hid (And.intro (HA.out.1.upd hu7 (by have := HA.out.2; have := HS.out.ord; simp; omega)) HA.out.2); clear HA; have HA := HA2; clear HA2)); (try (have HR2 := Lib.hid (And.intro (HR.out.1.upd hu7 (by have := HR.out.2; have := HS.out.ord; simp; omega)) HR.out.2); clear HR; have HR := HR2; clear HR2)); (try (have HZ2 := Lib.hid (And.intro (HZ.out.1.upd hu7 (by have := HZ.out.2; have := HS.out.ord; simp; omega)) HZ.out.2); clear HZ; have HZ := HZ2; clear HZ2)); have HS2 := Lib.hid (HS.out.upd hu7); clear HS; have HS := HS2; clear HS2 hu7; (simp only [res3])
            (try dsimp only)
            (try simp only [Act.put, List.setIfInBounds_toArray, List.set_cons_zero, List.set_cons_succ])
            refine hK.out _ _ ?_ (fun hHeld => ?_)
            · exact ⟨HS.out.s, HS.out.p⟩
            clear hK K
            (try simp only [Act.put, List.setIfInBounds_toArray, List.set_cons_zero, List.set_cons_succ])
            refine wpAnyM_take 10 (v := ?_) rfl (by kernel_rfl) (fun _ _ _ h => h) (Or.inl ⟨by rfl, ?_⟩) (by assumption) ?_
            rotate_left
            · (intro wz hSw; (try dsimp only at hSw); go_simp; (try with_reducible rfl))
            (try simp only [Act.put, List.setIfInBounds_toArray, List.set_cons_zero, List.set_cons_succ])
            refine wpAnyM_take 11 (v := ?_) rfl (by kernel_rfl) (fun _ _ _ h => h) (Or.inl ⟨by rfl, ?_⟩) (by assumption) ?_
            rotate_left
            · (intro wz hSw; (try dsimp only at hSw); go_simp; (try with_reducible rfl))
            (try simp only [Act.put, List.setIfInBounds_toArray, List.set_cons_zero, List.set_cons_succ])
            refine wpAnyM_take 12 (v := ?_) rfl (by kernel_rfl) (fun _ _ _ h => h) (Or.inl ⟨by rfl, ?_⟩) (by assumption) ?_
            rotate_left
            · (intro wz hSw; (try dsimp only at hSw); go_simp; (try with_reducible rfl))
            (try simp only [Act.put, List.setIfInBounds_toArray, List.set_cons_zero, List.set_cons_succ])
            refine wpAnyM_take 13 (v := ?_) rfl (by kernel_rfl) (fun _ _ _ h => h) (Or.inl ⟨by rfl, ?_⟩) (by assumption) ?_
            rotate_left
            · (intro wz hSw; (try dsimp only at hSw); go_simp; (try with_reducible rfl))
            (try simp only [Act.put, List.setIfInBounds_toArray, List.set_cons_zero, List.set_cons_succ])
            clear hHeld
            revert HS
            revert b4
            revert wn
            intro wx b4 HS
            refine wpAnyM_threeS 14 15 16 rfl rfl rfl (by kernel_rfl) (fun K hK => ?_) (fun K hK => ?_) (fun K hK => ?_)
            · go_simp; obtain ⟨b14, hb⟩ : ∃ x, wx.heap.size = x := ⟨_, rfl⟩; have HA := Lib.hid (mv_st HS.out b14 hb); have hBB := (Below.refl wx.heap.size wx).alloc (Nat.le_refl _) (.cells #[.int .i64 0, .int .i64 0, .int .i64 0, .int .i64 0, .int .i64 0, .int .i64 0, .int .i64 0, .int .i64 0, .int .i64 0, .int .i64 0, .int .i64 0, .int .i64 0, .int .i64 0, .int .i64 0, .int .i64 0, .int .i64 0, .int .i64 0, .int .i64 0, .int .i64 0, .int .i64 0, .int .i64 0, .int .i64 0, .int .i64 0, .int .i64 0] 27); (try (have HL2 := Lib.hid (HL.out.below hBB); clear HL; have HL := HL2; clear HL2)); (try (have HR2 := Lib.hid (And.intro (HR.out.1.below hBB) HR.out.2); clear HR; have HR := HR2; clear HR2)); (try (have HZ2 := Lib.hid (And.intro (HZ.out.1.below hBB) HZ.out.2); clear HZ; have HZ := HZ2; clear HZ2)); have HS2 := Lib.hid (HS.out.down hBB); clear HS; have HS := HS2; clear HS2 hBB; (rw [hb]); clear hb; generalize wx.alloc (.cells #[.int .i64 0, .int .i64 0, .int .i64 0, .int .i64 0, .int .i64 0, .int .i64 0, .int .i64 0, .int .i64 0, .int .i64 0, .int .i64 0, .int .i64 0, .int .i64 0, .int .i64 0, .int .i64 0, .int .i64 0, .int .i64 0, .int .i64 0, .int .i64 0, .int .i64 0, .int .i64 0, .int .i64 0, .int .i64 0, .int .i64 0, .int .i64 0] 27) = wn at *
              refine hK.out _ _ ?_ (fun hHeld => ?_)
              · exact ⟨HS.out.s, HS.out.p⟩
              clear hK K
              (try simp only [Act.put, List.setIfInBounds_toArray, List.set_cons_zero, List.set_cons_succ])
              clear hHeld
              revert HA
              revert HS
              revert b14
              revert b4
              revert wn
              exact SH14.out
            · go_simp; obtain ⟨b15, hb⟩ : ∃ x, wx.heap.size = x := ⟨_, rfl⟩; have HR := Lib.hid (mv_cov HS.out b15 hb); have hBB := (Below.refl wx.heap.size wx).alloc (Nat.le_refl _) (.cells Try.zeroCells30 30); (try (have HL2 := Lib.hid (HL.out.below hBB); clear HL; have HL := HL2; clear HL2)); (try (have HA2 := Lib.hid (And.intro (HA.out.1.below hBB) HA.out.2); clear HA; have HA := HA2; clear HA2)); (try (have HZ2 := Lib.hid (And.intro (HZ.out.1.below hBB) HZ.out.2); clear HZ; have HZ := HZ2; clear HZ2)); have HS2 := Lib.hid (HS.out.down hBB); clear HS; have HS := HS2; clear HS2 hBB; (rw [hb]); clear hb; generalize wx.alloc (.cells Try.zeroCells30 30) = wn at *
              refine hK.out _ _ ?_ (fun hHeld => ?_)
              · exact ⟨HS.out.s, HS.out.p⟩
              clear hK K
              (try simp only [Act.put, List.setIfInBounds_toArray, List.set_cons_zero, List.set_cons_succ])
              clear hHeld
              revert HR
              revert HS
              revert b15
              revert b4
              revert wn
              exact SH15.out
            · go_simp; obtain ⟨b16, hb⟩ : ∃ x, wx.heap.size = x := ⟨_, rfl⟩; have HZ := Lib.hid (mv_res HS.out b16 hb); have hBB := (Below.refl wx.heap.size wx).alloc (Nat.le_refl _) (.cells #[.bool false, .int .i64 0, .int .i64 0] 43); (try (have HL2 := Lib.hid (HL.out.below hBB); clear HL; have HL := HL2; clear HL2)); (try (have HA2 := Lib.hid (And.intro (HA.out.1.below hBB) HA.out.2); clear HA; have HA := HA2; clear HA2)); (try (have HR2 := Lib.hid (And.intro (HR.out.1.below hBB) HR.out.2); clear HR; have HR := HR2; clear HR2)); have HS2 := Lib.hid (HS.out.down hBB); clear HS; have HS := HS2; clear HS2 hBB; (rw [hb]); clear hb; generalize wx.alloc (.cells #[.bool false, .int .i64 0, .int .i64 0] 43) = wn at *
              refine hK.out _ _ ?_ (fun hHeld => ?_)
              · exact ⟨HS.out.s, HS.out.p⟩
              clear hK K
              (try simp only [Act.put, List.setIfInBounds_toArray, List.set_cons_zero, List.set_cons_succ])
              clear hHeld
              revert HZ
              revert HS
              revert b16
              revert b4
              revert wn
              exact SH16.out
          · go_simp; obtain ⟨b14, hb⟩ : ∃ x, wx.heap.size = x := ⟨_, rfl⟩; have HA := Lib.hid (mv_st HS.out b14 hb); have hBB := (Below.refl wx.heap.size wx).alloc (Nat.le_refl _) (.cells #[.int .i64 0, .int .i64 0, .int .i64 0, .int .i64 0, .int .i64 0, .int .i64 0, .int .i64 0, .int .i64 0, .int .i64 0, .int .i64 0, .int .i64 0, .int .i64 0, .int .i64 0, .int .i64 0, .int .i64 0, .int .i64 0, .int .i64 0, .int .i64 0, .int .i64 0, .int .i64 0, .int .i64 0, .int .i64 0, .int .i64 0, .int .i64 0] 27); (try (have HL2 := Lib.hid (HL.out.below hBB); clear HL; have HL := HL2; clear HL2)); (try (have HR2 := Lib.hid (And.intro (HR.out.1.below hBB) HR.out.2); clear HR; have HR := HR2; clear HR2)); (try (have HZ2 := Lib.hid (And.intro (HZ.out.1.below hBB) HZ.out.2); clear HZ; have HZ := HZ2; clear HZ2)); have HS2 := Lib.hid (HS.out.down hBB); clear HS; have HS := HS2; clear HS2 hBB; (rw [hb]); clear hb; generalize wx.alloc (.cells #[.int .i64 0, .int .i64 0, .int .i64 0, .int .i64 0, .int .i64 0, .int .i64 0, .int .i64 0, .int .i64 0, .int .i64 0, .int .i64 0, .int .i64 0, .int .i64 0, .int .i64 0, .int .i64 0, .int .i64 0, .int .i64 0, .int .i64 0, .int .i64 0, .int .i64 0, .int .i64 0, .int .i64 0, .int .i64 0, .int .i64 0, .int .i64 0] 27) = wn at *
            refine hK.out _ _ ?_ (fun hHeld => ?_)
            · exact ⟨HS.out.s, HS.out.p⟩
            clear hK K
            (try simp only [Act.put, List.setIfInBounds_toArray, List.set_cons_zero, List.set_cons_succ])
            clear hHeld
            revert HA
            revert HS
            revert b14
            revert b4
            revert wn
            exact SH7.out
          · go_simp; obtain ⟨b15, hb⟩ : ∃ x, wx.heap.size = x := ⟨_, rfl⟩; have HR := Lib.hid (mv_cov HS.out b15 hb); have hBB := (Below.refl wx.heap.size wx).alloc (Nat.le_refl _) (.cells Try.zeroCells30 30); (try (have HL2 := Lib.hid (HL.out.below hBB); clear HL; have HL := HL2; clear HL2)); (try (have HA2 := Lib.hid (And.intro (HA.out.1.below hBB) HA.out.2); clear HA; have HA := HA2; clear HA2)); (try (have HZ2 := Lib.hid (And.intro (HZ.out.1.below hBB) HZ.out.2); clear HZ; have HZ := HZ2; clear HZ2)); have HS2 := Lib.hid (HS.out.down hBB); clear HS; have HS := HS2; clear HS2 hBB; (rw [hb]); clear hb; generalize wx.alloc (.cells Try.zeroCells30 30) = wn at *
            refine hK.out _ _ ?_ (fun hHeld => ?_)
            · exact ⟨HS.out.s, HS.out.p⟩
            clear hK K
            (try simp only [Act.put, List.setIfInBounds_toArray, List.set_cons_zero, List.set_cons_succ])
            clear hHeld
            revert HR
            revert HS
            revert b15
            revert b4
            revert wn
            exact SH8.out
          · go_simp; obtain ⟨b16, hb⟩ : ∃ x, wx.heap.size = x := ⟨_, rfl⟩; have HZ := Lib.hid (mv_res HS.out b16 hb); have hBB := (Below.refl wx.heap.size wx).alloc (Nat.le_refl _) (.cells #[.bool false, .int .i64 0, .int .i64 0] 43); (try (have HL2 := Lib.hid (HL.out.below hBB); clear HL; have HL := HL2; clear HL2)); (try (have HA2 := Lib.hid (And.intro (HA.out.1.below hBB) HA.out.2); clear HA; have HA := HA2; clear HA2)); (try (have HR2 := Lib.hid (And.intro (HR.out.1.below hBB) HR.out.2); clear HR; have HR := HR2; clear HR2)); have HS2 := Lib.hid (HS.out.down hBB); clear HS; have HS := HS2; clear HS2 hBB; (rw [hb]); clear hb; generalize wx.alloc (.cells #[.bool false, .int .i64 0, .int .i64 0] 43) = wn at *
            refine hK.out _ _ ?_ (fun hHeld => ?_)
            · exact ⟨HS.out.s, HS.out.p⟩
            clear hK K
            (try simp only [Act.put, List.setIfInBounds_toArray, List.set_cons_zero, List.set_cons_succ])
            clear hHeld
            revert HZ
            revert HS
            revert b16
            revert b4
            revert wn
            exact SH9.out
        · go_simp; obtain ⟨b14, hb⟩ : ∃ x, wx.heap.size = x := ⟨_, rfl⟩; have HA := Lib.hid (mv_st HS.out b14 hb); have hBB := (Below.refl wx.heap.size wx).alloc (Nat.le_refl _) (.cells #[.int .i64 0, .int .i64 0, .int .i64 0, .int .i64 0, .int .i64 0, .int .i64 0, .int .i64 0, .int .i64 0, .int .i64 0, .int .i64 0, .int .i64 0, .int .i64 0, .int .i64 0, .int .i64 0, .int .i64 0, .int .i64 0, .int .i64 0, .int .i64 0, .int .i64 0, .int .i64 0, .int .i64 0, .int .i64 0, .int .i64 0, .int .i64 0] 27); (try (have HL2 := Lib.hid (HL.out.below hBB); clear HL; have HL := HL2; clear HL2)); (try (have HR2 := Lib.hid (And.intro (HR.out.1.below hBB) HR.out.2); clear HR; have HR := HR2; clear HR2)); (try (have HZ2 := Lib.hid (And.intro (HZ.out.1.below hBB) HZ.out.2); clear HZ; have HZ := HZ2; clear HZ2)); have HS2 := Lib.hid (HS.out.down hBB); clear HS; have HS := HS2; clear HS2 hBB; (rw [hb]); clear hb; generalize wx.alloc (.cells #[.int .i64 0, .int .i64 0, .int .i64 0, .int .i64 0, .int .i64 0, .int .i64 0, .int .i64 0, .int .i64 0, .int .i64 0, .int .i64 0, .int .i64 0, .int .i64 0, .int .i64 0, .int .i64 0, .int .i64 0, .int .i64 0, .int .i64 0, .int .i64 0, .int .i64 0, .int .i64 0, .int .i64 0, .int .i64 0, .int .i64 0, .int .i64 0] 27) = wn at *
          refine hK.out _ _ ?_ (fun hHeld => ?_)
          · exact ⟨HS.out.s, HS.out.p⟩
          clear hK K
          (try simp only [Act.put, List.setIfInBounds_toArray, List.set_cons_zero, List.set_cons_succ])
          clear hHeld
          revert HA
          revert HL
          revert HS
          revert b14
          revert b4
          revert wn
          exact SH1.out
        · go_simp; obtain ⟨b15, hb⟩ : ∃ x, wx.heap.size = x := ⟨_, rfl⟩; have HR := Lib.hid (mv_cov HS.out b15 hb); have hBB := (Below.refl wx.heap.size wx).alloc (Nat.le_refl _) (.cells Try.zeroCells30 30); (try (have HL2 := Lib.hid (HL.out.below hBB); clear HL; have HL := HL2; clear HL2)); (try (have HA2 := Lib.hid (And.intro (HA.out.1.below hBB) HA.out.2); clear HA; have HA := HA2; clear HA2)); (try (have HZ2 := Lib.hid (And.intro (HZ.out.1.below hBB) HZ.out.2); clear HZ; have HZ := HZ2; clear HZ2)); have HS2 := Lib.hid (HS.out.down hBB); clear HS; have HS := HS2; clear HS2 hBB; (rw [hb]); clear hb; generalize wx.alloc (.cells Try.zeroCells30 30) = wn at *
          refine hK.out _ _ ?_ (fun hHeld => ?_)
          · exact ⟨HS.out.s, HS.out.p⟩
          clear hK K
          (try simp only [Act.put, List.setIfInBounds_toArray, List.set_cons_zero, List.set_cons_succ])
          clear hHeld
          revert HR
          revert HL
          revert HS
          revert b15
          revert b4
          revert wn
          exact SH2.out
        · go_simp; obtain ⟨b16, hb⟩ : ∃ x, wx.heap.size = x := ⟨_, rfl⟩; have HZ := Lib.hid (mv_res HS.out b16 hb); have hBB := (Below.refl wx.heap.size wx).alloc (Nat.le_refl _) (.cells #[.bool false, .int .i64 0, .int .i64 0] 43); (try (have HL2 := Lib.hid (HL.out.below hBB); clear HL; have HL := HL2; clear HL2)); (try (have HA2 := Lib.hid (And.intro (HA.out.1.below hBB) HA.out.2); clear HA; have HA := HA2; clear HA2)); (try (have HR2 := Lib.hid (And.intro (HR.out.1.below hBB) HR.out.2); clear HR; have HR := HR2; clear HR2)); have HS2 := Lib.hid (HS.out.down hBB); clear HS; have HS := HS2; clear HS2 hBB; (rw [hb]); clear hb; generalize wx.alloc (.cells #[.bool false, .int .i64 0, .int .i64 0] 43) = wn at *
          refine hK.out _ _ ?_ (fun hHeld => ?_)
          · exact ⟨HS.out.s, HS.out.p⟩
          clear hK K
          (try simp only [Act.put, List.setIfInBounds_toArray, List.set_cons_zero, List.set_cons_succ])
          clear hHeld
          revert HZ
          revert HL
          revert HS
          revert b16
          revert b4
          revert wn
          exact SH3.out
      · go_simp; obtain ⟨b14, hb⟩ : ∃ x, wx.heap.size = x := ⟨_, rfl⟩; have HA := Lib.hid (mv_st HS.out b14 hb); have hBB := (Below.refl wx.heap.size wx).alloc (Nat.le_refl _) (.cells #[.int .i64 0, .int .i64 0, .int .i64 0, .int .i64 0, .int .i64 0, .int .i64 0, .int .i64 0, .int .i64 0, .int .i64 0, .int .i64 0, .int .i64 0, .int .i64 0, .int .i64 0, .int .i64 0, .int .i64 0, .int .i64 0, .int .i64 0, .int .i64 0, .int .i64 0, .int .i64 0, .int .i64 0, .int .i64 0, .int .i64 0, .int .i64 0] 27); (try (have HL2 := Lib.hid (HL.out.below hBB); clear HL; have HL := HL2; clear HL2)); (try (have HR2 := Lib.hid (And.intro (HR.out.1.below hBB) HR.out.2); clear HR; have HR := HR2; clear HR2)); (try (have HZ2 := Lib.hid (And.intro (HZ.out.1.below hBB) HZ.out.2); clear HZ; have HZ := HZ2; clear HZ2)); have HS2 := Lib.hid (HS.out.down hBB); clear HS; have HS := HS2; clear HS2 hBB; (rw [hb]); clear hb; generalize wx.alloc (.cells #[.int .i64 0, .int .i64 0, .int .i64 0, .int .i64 0, .int .i64 0, .int .i64 0, .int .i64 0, .int .i64 0, .int .i64 0, .int .i64 0, .int .i64 0, .int .i64 0, .int .i64 0, .int .i64 0, .int .i64 0, .int .i64 0, .int .i64 0, .int .i64 0, .int .i64 0, .int .i64 0, .int .i64 0, .int .i64 0, .int .i64 0, .int .i64 0] 27) = wn at *
        refine hK.out _ _ ?_ (fun hHeld => ?_)
        · exact ⟨HS.out.s, HS.out.p⟩
        clear hK K
        (try simp only [Act.put, List.setIfInBounds_toArray, List.set_cons_zero, List.set_cons_succ])
        clear hHeld
        revert HA
        revert HS
        revert b14
        revert wn
        intro wx b14 HS HA
        refine wpAnyM_threeS 4 15 16 rfl rfl rfl (by kernel_rfl) (fun K hK => ?_) (fun K hK => ?_) (fun K hK => ?_)
        · go_simp; obtain ⟨b4, hb⟩ : ∃ x, wx.heap.size = x := ⟨_, rfl⟩; have HL := Lib.hid (mv_slc HS.out (k : Int) b4 hb); have hBB := (Below.refl wx.heap.size wx).alloc (Nat.le_refl _) (.cells #[.int .i64 (k : Int)] 3); (try (have HA2 := Lib.hid (And.intro (HA.out.1.below hBB) HA.out.2); clear HA; have HA := HA2; clear HA2)); (try (have HR2 := Lib.hid (And.intro (HR.out.1.below hBB) HR.out.2); clear HR; have HR := HR2; clear HR2)); (try (have HZ2 := Lib.hid (And.intro (HZ.out.1.below hBB) HZ.out.2); clear HZ; have HZ := HZ2; clear HZ2)); have HS2 := Lib.hid (HS.out.down hBB); clear HS; have HS := HS2; clear HS2 hBB; (rw [hb]); clear hb; generalize wx.alloc (.cells #[.int .i64 (k : Int)] 3) = wn at *
          refine hK.out _ _ ?_ (fun hHeld => ?_)
          · exact ⟨HS.out.s, HS.out.p⟩
          clear hK K
          (try simp only [Act.put, List.setIfInBounds_toArray, List.set_cons_zero, List.set_cons_succ])
          exact SH1.out _ _ _ HS HL HA
        · go_simp; obtain ⟨b15, hb⟩ : ∃ x, wx.heap.size = x := ⟨_, rfl⟩; have HR := Lib.hid (mv_cov HS.out b15 hb); have hBB := (Below.refl wx.heap.size wx).alloc (Nat.le_refl _) (.cells Try.zeroCells30 30); (try (have HL2 := Lib.hid (HL.out.below hBB); clear HL; have HL := HL2; clear HL2)); (try (have HA2 := Lib.hid (And.intro (HA.out.1.below hBB) HA.out.2); clear HA; have HA := HA2; clear HA2)); (try (have HZ2 := Lib.hid (And.intro (HZ.out.1.below hBB) HZ.out.2); clear HZ; have HZ := HZ2; clear HZ2)); have HS2 := Lib.hid (HS.out.down hBB); clear HS; have HS := HS2; clear HS2 hBB; (rw [hb]); clear hb; generalize wx.alloc (.cells Try.zeroCells30 30) = wn at *
          refine hK.out _ _ ?_ (fun hHeld => ?_)
          · exact ⟨HS.out.s, HS.out.p⟩
          clear hK K
          (try simp only [Act.put, List.setIfInBounds_toArray, List.set_cons_zero, List.set_cons_succ])
          clear hHeld
          revert HR
          revert HA
          revert HS
          revert b15
          revert b14
          revert wn
          exact SH4.out
        · go_simp; obtain ⟨b16, hb⟩ : ∃ x, wx.heap.size = x := ⟨_, rfl⟩; have HZ := Lib.hid (mv_res HS.out b16 hb); have hBB := (Below.refl wx.heap.size wx).alloc (Nat.le_refl _) (.cells #[.bool false, .int .i64 0, .int .i64 0] 43); (try (have HL2 := Lib.hid (HL.out.below hBB); clear HL; have HL := HL2; clear HL2)); (try (have HA2 := Lib.hid (And.intro (HA.out.1.below hBB) HA.out.2); clear HA; have HA := HA2; clear HA2)); (try (have HR2 := Lib.hid (And.intro (HR.out.1.below hBB) HR.out.2); clear HR; have HR := HR2; clear HR2)); have HS2 := Lib.hid (HS.out.down hBB); clear HS; have HS := HS2; clear HS2 hBB; (rw [hb]); clear hb; generalize wx.alloc (.cells #[.bool false, .int .i64 0, .int .i64 0] 43) = wn at *
          refine hK.out _ _ ?_ (fun hHeld => ?_)
          · exact ⟨HS.out.s, HS.out.p⟩
          clear hK K
          (try simp only [Act.put, List.setIfInBounds_toArray, List.set_cons_zero, List.set_cons_succ])
          clear hHeld
          revert HZ
          revert HA
          revert HS
          revert b16
          revert b14
          revert wn
          exact SH5.out
      · go_simp; obtain ⟨b15, hb⟩ : ∃ x, wx.heap.size = x := ⟨_, rfl⟩; have HR := Lib.hid (mv_cov HS.out b15 hb); have hBB := (Below.refl wx.heap.size wx).alloc (Nat.le_refl _) (.cells Try.zeroCells30 30); (try (have HL2 := Lib.hid (HL.out.below hBB); clear HL; have HL := HL2; clear HL2)); (try (have HA2 := Lib.hid (And.intro (HA.out.1.below hBB) HA.out.2); clear HA; have HA := HA2; clear HA2)); (try (have HZ2 := Lib.hid (And.intro (HZ.out.1.below hBB) HZ.out.2); clear HZ; have HZ := HZ2; clear HZ2)); have HS2 := Lib.hid (HS.out.down hBB); clear HS; have HS := HS2; clear HS2 hBB; (rw [hb]); clear hb; generalize wx.alloc (.cells Try.zeroCells30 30) = wn at *
        refine hK.out _ _ ?_ (fun hHeld => ?_)
        · exact ⟨HS.out.s, HS.out.p⟩
        clear hK K
        (try simp only [Act.put, List.setIfInBounds_toArray, List.set_cons_zero, List.set_cons_succ])
        clear hHeld
        revert HR
        revert HS
        revert b15
        revert wn
        intro wx b15 HS HR
        refine wpAnyM_threeS 4 14 16 rfl rfl rfl (by kernel_rfl) (fun K hK => ?_) (fun K hK => ?_) (fun K hK => ?_)
        · go_simp; obtain ⟨b4, hb⟩ : ∃ x, wx.heap.size = x := ⟨_, rfl⟩; have HL := Lib.hid (mv_slc HS.out (k : Int) b4 hb); have hBB := (Below.refl wx.heap.size wx).alloc (Nat.le_refl _) (.cells #[.int .i64 (k : Int)] 3); (try (have HA2 := Lib.hid (And.intro (HA.out.1.below hBB) HA.out.2); clear HA; have HA := HA2; clear HA2)); (try (have HR2 := Lib.hid (And.intro (HR.out.1.below hBB) HR.out.2); clear HR; have HR := HR2; clear HR2)); (try (have HZ2 := Lib.hid (And.intro (HZ.out.1.below hBB) HZ.out.2); clear HZ; have HZ := HZ2; clear HZ2)); have HS2 := Lib.hid (HS.out.down hBB); clear HS; have HS := HS2; clear HS2 hBB; (rw [hb]); clear hb; generalize wx.alloc (.cells #[.int .i64 (k : Int)] 3) = wn at *
          refine hK.out _ _ ?_ (fun hHeld => ?_)
          · exact ⟨HS.out.s, HS.out.p⟩
          clear hK K
          (try simp only [Act.put, List.setIfInBounds_toArray, List.set_cons_zero, List.set_cons_succ])
          exact SH2.out _ _ _ HS HL HR
        · go_simp; obtain ⟨b14, hb⟩ : ∃ x, wx.heap.size = x := ⟨_, rfl⟩; have HA := Lib.hid (mv_st HS.out b14 hb); have hBB := (Below.refl wx.heap.size wx).alloc (Nat.le_refl _) (.cells #[.int .i64 0, .int .i64 0, .int .i64 0, .int .i64 0, .int .i64 0, .int .i64 0, .int .i64 0, .int .i64 0, .int .i64 0, .int .i64 0, .int .i64 0, .int .i64 0, .int .i64 0, .int .i64 0, .int .i64 0, .int .i64 0, .int .i64 0, .int .i64 0, .int .i64 0, .int .i64 0, .int .i64 0, .int .i64 0, .int .i64 0, .int .i64 0] 27); (try (have HL2 := Lib.hid (HL.out.below hBB); clear HL; have HL := HL2; clear HL2)); (try (have HR2 := Lib.hid (And.intro (HR.out.1.below hBB) HR.out.2); clear HR; have HR := HR2; clear HR2)); (try (have HZ2 := Lib.hid (And.intro (HZ.out.1.below hBB) HZ.out.2); clear HZ; have HZ := HZ2; clear HZ2)); have HS2 := Lib.hid (HS.out.down hBB); clear HS; have HS := HS2; clear HS2 hBB; (rw [hb]); clear hb; generalize wx.alloc (.cells #[.int .i64 0, .int .i64 0, .int .i64 0, .int .i64 0, .int .i64 0, .int .i64 0, .int .i64 0, .int .i64 0, .int .i64 0, .int .i64 0, .int .i64 0, .int .i64 0, .int .i64 0, .int .i64 0, .int .i64 0, .int .i64 0, .int .i64 0, .int .i64 0, .int .i64 0, .int .i64 0, .int .i64 0, .int .i64 0, .int .i64 0, .int .i64 0] 27) = wn at *
          refine hK.out _ _ ?_ (fun hHeld => ?_)
          · exact ⟨HS.out.s, HS.out.p⟩
          clear hK K
          (try simp only [Act.put, List.setIfInBounds_toArray, List.set_cons_zero, List.set_cons_succ])
          exact SH4.out _ _ _ HS HA HR
        · go_simp; obtain ⟨b16, hb⟩ : ∃ x, wx.heap.size = x := ⟨_, rfl⟩; have HZ := Lib.hid (mv_res HS.out b16 hb); have hBB := (Below.refl wx.heap.size wx).alloc (Nat.le_refl _) (.cells #[.bool false, .int .i64 0, .int .i64 0] 43); (try (have HL2 := Lib.hid (HL.out.below hBB); clear HL; have HL := HL2; clear HL2)); (try (have HA2 := Lib.hid (And.intro (HA.out.1.below hBB) HA.out.2); clear HA; have HA := HA2; clear HA2)); (try (have HR2 := Lib.hid (And.intro (HR.out.1.below hBB) HR.out.2); clear HR; have HR := HR2; clear HR2)); have HS2 := Lib.hid (HS.out.down hBB); clear HS; have HS := HS2; clear HS2 hBB; (rw [hb]); clear hb; generalize wx.alloc (.cells #[.bool false, .int .i64 0, .int .i64 0] 43) = wn at *
          refine hK.out _ _ ?_ (fun hHeld => ?_)
          · exact ⟨HS.out.s, HS.out.p⟩
          clear hK K
          (try simp only [Act.put, List.setIfInBounds_toArray, List.set_cons_zero, List.set_cons_succ])
          clear hHeld
          revert HZ
          revert HR
          revert HS
          revert b16
          revert b15
          revert wn
          exact SH6.out
      · go_simp; obtain ⟨b16, hb⟩ : ∃ x, wx.heap.size = x := ⟨_, rfl⟩; have HZ := Lib.hid (mv_res HS.out b16 hb); have hBB := (Below.refl wx.heap.size wx).alloc (Nat.le_refl _) (.cells #[.bool false, .int .i64 0, .int .i64 0] 43); (try (have HL2 := Lib.hid (HL.out.below hBB); clear HL; have HL := HL2; clear HL2)); (try (have HA2 := Lib.hid (And.intro (HA.out.1.below hBB) HA.out.2); clear HA; have HA := HA2; clear HA2)); (try (have HR2 := Lib.hid (And.intro (HR.out.1.below hBB) HR.out.2); clear HR; have HR := HR2; clear HR2)); have HS2 := Lib.hid (HS.out.down hBB); clear HS; have HS := HS2; clear HS2 hBB; (rw [hb]); clear hb; generalize wx.alloc (.cells #[.bool false, .int .i64 0, .int .i64 0] 43) = wn at *
        refine hK.out _ _ ?_ (fun hHeld => ?_)
        · exact ⟨HS.out.s, HS.out.p⟩
        clear hK K
        (try simp only [Act.put, List.setIfInBounds_toArray, List.set_cons_zero, List.set_cons_succ])
        clear hHeld
        revert HZ
        revert HS
        revert b16
        revert wn
        intro wx b16 HS HZ
        refine wpAnyM_threeS 4 14 15 rfl rfl rfl (by kernel_rfl) (fun K hK => ?_) (fun K hK => ?_) (fun K hK => ?_)
        · go_simp; obtain ⟨b4, hb⟩ : ∃ x, wx.heap.size = x := ⟨_, rfl⟩; have HL := Lib.hid (mv_slc HS.out (k : Int) b4 hb); have hBB := (Below.refl wx.heap.size wx).alloc (Nat.le_refl _) (.cells #[.int .i64 (k : Int)] 3); (try (have HA2 := Lib.hid (And.intro (HA.out.1.below hBB) HA.out.2); clear HA; have HA := HA2; clear HA2)); (try (have HR2 := Lib.hid (And.intro (HR.out.1.below hBB) HR.out.2); clear HR; have HR := HR2; clear HR2)); (try (have HZ2 := Lib.hid (And.intro (HZ.out.1.below hBB) HZ.out.2); clear HZ; have HZ := HZ2; clear HZ2)); have HS2 := Lib.hid (HS.out.down hBB); clear HS; have HS := HS2; clear HS2 hBB; (rw [hb]); clear hb; generalize wx.alloc (.cells #[.int .i64 (k : Int)] 3) = wn at *
          refine hK.out _ _ ?_ (fun hHeld => ?_)
          · exact ⟨HS.out.s, HS.out.p⟩
          clear hK K
          (try simp only [Act.put, List.setIfInBounds_toArray, List.set_cons_zero, List.set_cons_succ])
          exact SH3.out _ _ _ HS HL HZ
        · go_simp; obtain ⟨b14, hb⟩ : ∃ x, wx.heap.size = x := ⟨_, rfl⟩; have HA := Lib.hid (mv_st HS.out b14 hb); have hBB := (Below.refl wx.heap.size wx).alloc (Nat.le_refl _) (.cells #[.int .i64 0, .int .i64 0, .int .i64 0, .int .i64 0, .int .i64 0, .int .i64 0, .int .i64 0, .int .i64 0, .int .i64 0, .int .i64 0, .int .i64 0, .int .i64 0, .int .i64 0, .int .i64 0, .int .i64 0, .int .i64 0, .int .i64 0, .int .i64 0, .int .i64 0, .int .i64 0, .int .i64 0, .int .i64 0, .int .i64 0, .int .i64 0] 27); (try (have HL2 := Lib.hid (HL.out.below hBB); clear HL; have HL := HL2; clear HL2)); (try (have HR2 := Lib.hid (And.intro (HR.out.1.below hBB) HR.out.2); clear HR; have HR := HR2; clear HR2)); (try (have HZ2 := Lib.hid (And.intro (HZ.out.1.below hBB) HZ.out.2); clear HZ; have HZ := HZ2; clear HZ2)); have HS2 := Lib.hid (HS.out.down hBB); clear HS; have HS := HS2; clear HS2 hBB; (rw [hb]); clear hb; generalize wx.alloc (.cells #[.int .i64 0, .int .i64 0, .int .i64 0, .int .i64 0, .int .i64 0, .int .i64 0, .int .i64 0, .int .i64 0, .int .i64 0, .int .i64 0, .int .i64 0, .int .i64 0, .int .i64 0, .int .i64 0, .int .i64 0, .int .i64 0, .int .i64 0, .int .i64 0, .int .i64 0, .int .i64 0, .int .i64 0, .int .i64 0, .int .i64 0, .int .i64 0] 27) = wn at *
          refine hK.out _ _ ?_ (fun hHeld => ?_)
          · exact ⟨HS.out.s, HS.out.p⟩
          clear hK K
          (try simp only [Act.put, List.setIfInBounds_toArray, List.set_cons_zero, List.set_cons_succ])
          exact SH5.out _ _ _ HS HA HZ
        · go_simp; obtain ⟨b15, hb⟩ : ∃ x, wx.heap.size = x := ⟨_, rfl⟩; have HR := Lib.hid (mv_cov HS.out b15 hb); have hBB := (Below.refl wx.heap.size wx).alloc (Nat.le_refl _) (.cells Try.zeroCells30 30); (try (have HL2 := Lib.hid (HL.out.below hBB); clear HL; have HL := HL2; clear HL2)); (try (have HA2 := Lib.hid (And.intro (HA.out.1.below hBB) HA.out.2); clear HA; have HA := HA2; clear HA2)); (try (have HZ2 := Lib.hid (And.intro (HZ.out.1.below hBB) HZ.out.2); clear HZ; have HZ := HZ2; clear HZ2)); have HS2 := Lib.hid (HS.out.down hBB); clear HS; have HS := HS2; clear HS2 hBB; (rw [hb]); clear hb; generalize wx.alloc (.cells Try.zeroCells30 30) = wn at *
          refine hK.out _ _ ?_ (fun hHeld => ?_)
          · exact ⟨HS.out.s, HS.out.p⟩
          clear hK K
          (try simp only [Act.put, List.setIfInBounds_toArray, List.set_cons_zero, List.set_cons_succ])
          exact SH6.out _ _ _ HS HR HZ
    case sp1 =>
      intro wx b4 b14 HS HL HA
      refine wpAnyM_threeS 5 15 16 rfl rfl rfl (by kernel_rfl) (fun K hK => ?_) (fun K hK => ?_) (fun K hK => ?_)
      · go_simp
        (refine (pick_any _ 1 _ (fun _ => (k : Int)) _ HL.out (by omega)).mono ?_); rintro e wn ⟨rfl, hb6⟩; (rw [EN.out]); have HS2 := Lib.hid (HS.out.down hb6); clear HS; have HS := HS2; clear HS2 HL; (try (have HA2 := Lib.hid (And.intro (HA.out.1.below hb6) HA.out.2); clear HA; have HA := HA2; clear HA2)); (try (have HR2 := Lib.hid (And.intro (HR.out.1.below hb6) HR.out.2); clear HR; have HR := HR2; clear HR2)); (try (have HZ2 := Lib.hid (And.intro (HZ.out.1.below hb6) HZ.out.2); clear HZ; have HZ := HZ2; clear HZ2)); clear hb6
        (try dsimp only)
        (try simp only [Act.put, List.setIfInBounds_toArray, List.set_cons_zero, List.set_cons_succ])
        refine hK.out _ _ ?_ (fun hHeld => ?_)
        · exact ⟨HS.out.s, HS.out.p⟩
        clear hK K
        (try simp only [Act.put, List.setIfInBounds_toArray, List.set_cons_zero, List.set_cons_succ])
        refine wpAnyM_take 8 (v := ?_) rfl (by kernel_rfl) (fun _ _ _ h => h) (Or.inl ⟨by rfl, ?_⟩) (by assumption) ?_
        rotate_left
        · (intro wz hSw; refine Eq.trans (run_build_obs4 (.tmp 64) (.tmp 65) (.tmp 66) (.const (.int .i64 1000)) (by rfl) (by rfl) (by rfl) (by rfl) (by rfl)) ?_; rw [OB.out])
        (try simp only [Act.put, List.setIfInBounds_toArray, List.set_cons_zero, List.set_cons_succ])
        exact SH7.out _ _ _ HS HA
      · go_simp; obtain ⟨b15, hb⟩ : ∃ x, wx.heap.size = x := ⟨_, rfl⟩; have HR := Lib.hid (mv_cov HS.out b15 hb); have hBB := (Below.refl wx.heap.size wx).alloc (Nat.le_refl _) (.cells Try.zeroCells30 30); (try (have HL2 := Lib.hid (HL.out.below hBB); clear HL; have HL := HL2; clear HL2)); (try (have HA2 := Lib.hid (And.intro (HA.out.1.below hBB) HA.out.2); clear HA; have HA := HA2; clear HA2)); (try (have HZ2 := Lib.hid (And.intro (HZ.out.1.below hBB) HZ.out.2); clear HZ; have HZ := HZ2; clear HZ2)); have HS2 := Lib.hid (HS.out.down hBB); clear HS; have HS := HS2; clear HS2 hBB; (rw [hb]); clear hb; generalize wx.alloc (.cells Try.zeroCells30 30) = wn at *
        refine hK.out _ _ ?_ (fun hHeld => ?_)
        · exact ⟨HS.out.s, HS.out.p⟩
        clear hK K
        (try simp only [Act.put, List.setIfInBounds_toArray, List.set_cons_zero, List.set_cons_succ])
        clear hHeld
        revert HR
        revert HA
        revert HL
        revert HS
        revert b15
        revert b14
        revert b4
        revert wn
        exact SH10.out
      · go_simp; obtain ⟨b16, hb⟩ : ∃ x, wx.heap.size = x := ⟨_, rfl⟩; have HZ := Lib.hid (mv_res HS.out b16 hb); have hBB := (Below.refl wx.heap.size wx).alloc (Nat.le_refl _) (.cells #[.bool false, .int .i64 0, .int .i64 0] 43); (try (have HL2 := Lib.hid (HL.out.below hBB); clear HL; have HL := HL2; clear HL2)); (try (have HA2 := Lib.hid (And.intro (HA.out.1.below hBB) HA.out.2); clear HA; have HA := HA2; clear HA2)); (try (have HR2 := Lib.hid (And.intro (HR.out.1.below hBB) HR.out.2); clear HR; have HR := HR2; clear HR2)); have HS2 := Lib.hid (HS.out.down hBB); clear HS; have HS := HS2; clear HS2 hBB; (rw [hb]); clear hb; generalize wx.alloc (.cells #[.bool false, .int .i64 0, .int .i64 0] 43) = wn at *
        refine hK.out _ _ ?_ (fun hHeld => ?_)
        · exact ⟨HS.out.s, HS.out.p⟩
        clear hK K
        (try simp only [Act.put, List.setIfInBounds_toArray, List.set_cons_zero, List.set_cons_succ])
        clear hHeld
        revert HZ
        revert HA
        revert HL
        revert HS
        revert b16
        revert b14
        revert b4
        revert wn
        exact SH11.out
    case sp2 =>
      intro wx b4 b15 HS HL HR
      refine wpAnyM_threeS 5 14 16 rfl rfl rfl (by kernel_rfl) (fun K hK => ?_) (fun K hK => ?_) (fun K hK => ?_)
      · go_simp
        (refine (pick_any _ 1 _ (fun _ => (k : Int)) _ HL.out (by omega)).mono ?_); rintro e wn ⟨rfl, hb6⟩; (rw [EN.out]); have HS2 := Lib.hid (HS.out.down hb6); clear HS; have HS := HS2; clear HS2 HL; (try (have HA2 := Lib.hid (And.intro (HA.out.1.below hb6) HA.out.2); clear HA; have HA := HA2; clear HA2)); (try (have HR2 := Lib.hid (And.intro (HR.out.1.below hb6) HR.out.2); clear HR; have HR := HR2; clear HR2)); (try (have HZ2 := Lib.hid (And.intro (HZ.out.1.below hb6) HZ.out.2); clear HZ; have HZ := HZ2; clear HZ2)); clear hb6
        (try dsimp only)
        (try simp only [Act.put, List.setIfInBounds_toArray, List.set_cons_zero, List.set_cons_succ])
        refine hK.out _ _ ?_ (fun hHeld => ?_)
        · exact ⟨HS.out.s, HS.out.p⟩
        clear hK K
        (try simp only [Act.put, List.setIfInBounds_toArray, List.set_cons_zero, List.set_cons_succ])
        refine wpAnyM_take 8 (v := ?_) rfl (by kernel_rfl) (fun _ _ _ h => h) (Or.inl ⟨by rfl, ?_⟩) (by assumption) ?_
        rotate_left
        · (intro wz hSw; refine Eq.trans (run_build_obs4 (.tmp 64) (.tmp 65) (.tmp 66) (.const (.int .i64 1000)) (by rfl) (by rfl) (by rfl) (by rfl) (by rfl)) ?_; rw [OB.out])
        (try simp only [Act.put, List.setIfInBounds_toArray, List.set_cons_zero, List.set_cons_succ])
        exact SH8.out _ _ _ HS HR
      · go_simp; obtain ⟨b14, hb⟩ : ∃ x, wx.heap.size = x := ⟨_, rfl⟩; have HA := Lib.hid (mv_st HS.out b14 hb); have hBB := (Below.refl wx.heap.size wx).alloc (Nat.le_refl _) (.cells #[.int .i64 0, .int .i64 0, .int .i64 0, .int .i64 0, .int .i64 0, .int .i64 0, .int .i64 0, .int .i64 0, .int .i64 0, .int .i64 0, .int .i64 0, .int .i64 0, .int .i64 0, .int .i64 0, .int .i64 0, .int .i64 0, .int .i64 0, .int .i64 0, .int .i64 0, .int .i64 0, .int .i64 0, .int .i64 0, .int .i64 0, .int .i64 0] 27); (try (have HL2 := Lib.hid (HL.out.below hBB); clear HL; have HL := HL2; clear HL2)); (try (have HR2 := Lib.hid (And.intro (HR.out.1.below hBB) HR.out.2); clear HR; have HR := HR2; clear HR2)); (try (have HZ2 := Lib.hid (And.intro (HZ.out.1.below hBB) HZ.out.2); clear HZ; have HZ := HZ2; clear HZ2)); have HS2 := Lib.hid (HS.out.down hBB); clear HS; have HS := HS2; clear HS2 hBB; (rw [hb]); clear hb; generalize wx.alloc (.cells #[.int .i64 0, .int .i64 0, .int .i64 0, .int .i64 0, .int .i64 0, .int .i64 0, .int .i64 0, .int .i64 0, .int .i64 0, .int .i64 0, .int .i64 0, .int .i64 0, .int .i64 0, .int .i64 0, .int .i64 0, .int .i64 0, .int .i64 0, .int .i64 0, .int .i64 0, .int .i64 0, .int .i64 0, .int .i64 0, .int .i64 0, .int .i64 0] 27) = wn at *
        refine hK.out _ _ ?_ (fun hHeld => ?_)
        · exact ⟨HS.out.s, HS.out.p⟩
        clear hK K
        (try simp only [Act.put, List.setIfInBounds_toArray, List.set_cons_zero, List.set_cons_succ])
        exact SH10.out _ _ _ _ HS HL HA HR
      · go_simp; obtain ⟨b16, hb⟩ : ∃ x, wx.heap.size = x := ⟨_, rfl⟩; have HZ := Lib.hid (mv_res HS.out b16 hb); have hBB := (Below.refl wx.heap.size wx).alloc (Nat.le_refl _) (.cells #[.bool false, .int .i64 0, .int .i64 0] 43); (try (have HL2 := Lib.hid (HL.out.below hBB); clear HL; have HL := HL2; clear HL2)); (try (have HA2 := Lib.hid (And.intro (HA.out.1.below hBB) HA.out.2); clear HA; have HA := HA2; clear HA2)); (try (have HR2 := Lib.hid (And.intro (HR.out.1.below hBB) HR.out.2); clear HR; have HR := HR2; clear HR2)); have HS2 := Lib.hid (HS.out.down hBB); clear HS; have HS := HS2; clear HS2 hBB; (rw [hb]); clear hb; generalize wx.alloc (.cells #[.bool false, .int .i64 0, .int .i64 0] 43) = wn at *
        refine hK.out _ _ ?_ (fun hHeld => ?_)
        · exact ⟨HS.out.s, HS.out.p⟩
        clear hK K
        (try simp only [Act.put, List.setIfInBounds_toArray, List.set_cons_zero, List.set_cons_succ])
        clear hHeld
        revert HZ
        revert HR
        revert HL
        revert HS
        revert b16
        revert b15
        revert b4
        revert wn
        exact SH12.out
    case sp3 =>
      intro wx b4 b16 HS HL HZ
      refine wpAnyM_threeS 5 14 15 rfl rfl rfl (by kernel_rfl) (fun K hK => ?_) (fun K hK => ?_) (fun K hK => ?_)
      · go_simp
        (refine (pick_any _ 1 _ (fun _ => (k : Int)) _ HL.out (by omega)).mono ?_); rintro e wn ⟨rfl, hb6⟩; (rw [EN.out]); have HS2 := Lib.hid (HS.out.down hb6); clear HS; have HS := HS2; clear HS2 HL; (try (have HA2 := Lib.hid (And.intro (HA.out.1.below hb6) HA.out.2); clear HA; have HA := HA2; clear HA2)); (try (have HR2 := Lib.hid (And.intro (HR.out.1.below hb6) HR.out.2); clear HR; have HR := HR2; clear HR2)); (try (have HZ2 := Lib.hid (And.intro (HZ.out.1.below hb6) HZ.out.2); clear HZ; have HZ := HZ2; clear HZ2)); clear hb6
        (try dsimp only)
        (try simp only [Act.put, List.setIfInBounds_toArray, List.set_cons_zero, List.set_cons_succ])
        refine hK.out _ _ ?_ (fun hHeld => ?_)
        · exact ⟨HS.out.s, HS.out.p⟩
        clear hK K
        (try simp only [Act.put, List.setIfInBounds_toArray, List.set_cons_zero, List.set_cons_succ])
        refine wpAnyM_take 8 (v := ?_) rfl (by kernel_rfl) (fun _ _ _ h => h) (Or.inl ⟨by rfl, ?_⟩) (by assumption) ?_
        rotate_left
        · (intro wz hSw; refine Eq.trans (run_build_obs4 (.tmp 64) (.tmp 65) (.tmp 66) (.const (.int .i64 1000)) (by rfl) (by rfl) (by rfl) (by rfl) (by rfl)) ?_; rw [OB.out])
        (try simp only [Act.put, List.setIfInBounds_toArray, List.set_cons_zero, List.set_cons_succ])
        exact SH9.out _ _ _ HS HZ
      · go_simp; obtain ⟨b14, hb⟩ : ∃ x, wx.heap.size = x := ⟨_, rfl⟩; have HA := Lib.hid (mv_st HS.out b14 hb); have hBB := (Below.refl wx.heap.size wx).alloc (Nat.le_refl _) (.cells #[.int .i64 0, .int .i64 0, .int .i64 0, .int .i64 0, .int .i64 0, .int .i64 0, .int .i64 0, .int .i64 0, .int .i64 0, .int .i64 0, .int .i64 0, .int .i64 0, .int .i64 0, .int .i64 0, .int .i64 0, .int .i64 0, .int .i64 0, .int .i64 0, .int .i64 0, .int .i64 0, .int .i64 0, .int .i64 0, .int .i64 0, .int .i64 0] 27); (try (have HL2 := Lib.hid (HL.out.below hBB); clear HL; have HL := HL2; clear HL2)); (try (have HR2 := Lib.hid (And.intro (HR.out.1.below hBB) HR.out.2); clear HR; have HR := HR2; clear HR2)); (try (have HZ2 := Lib.hid (And.intro (HZ.out.1.below hBB) HZ.out.2); clear HZ; have HZ := HZ2; clear HZ2)); have HS2 := Lib.hid (HS.out.down hBB); clear HS; have HS := HS2; clear HS2 hBB; (rw [hb]); clear hb; generalize wx.alloc (.cells #[.int .i64 0, .int .i64 0, .int .i64 0, .int .i64 0, .int .i64 0, .int .i64 0, .int .i64 0, .int .i64 0, .int .i64 0, .int .i64 0, .int .i64 0, .int .i64 0, .int .i64 0, .int .i64 0, .int .i64 0, .int .i64 0, .int .i64 0, .int .i64 0, .int .i64 0, .int .i64 0, .int .i64 0, .int .i64 0, .int .i64 0, .int .i64 0] 27) = wn at *
        refine hK.out _ _ ?_ (fun hHeld => ?_)
        · exact ⟨HS.out.s, HS.out.p⟩
        clear hK K
        (try simp only [Act.put, List.setIfInBounds_toArray, List.set_cons_zero, List.set_cons_succ])
        exact SH11.out _ _ _ _ HS HL HA HZ
      · go_simp; obtain ⟨b15, hb⟩ : ∃ x, wx.heap.size = x := ⟨_, rfl⟩; have HR := Lib.hid (mv_cov HS.out b15 hb); have hBB := (Below.refl wx.heap.size wx).alloc (Nat.le_refl _) (.cells Try.zeroCells30 30); (try (have HL2 := Lib.hid (HL.out.below hBB); clear HL; have HL := HL2; clear HL2)); (try (have HA2 := Lib.hid (And.intro (HA.out.1.below hBB) HA.out.2); clear HA; have HA := HA2; clear HA2)); (try (have HZ2 := Lib.hid (And.intro (HZ.out.1.below hBB) HZ.out.2); clear HZ; have HZ := HZ2; clear HZ2)); have HS2 := Lib.hid (HS.out.down hBB); clear HS; have HS := HS2; clear HS2 hBB; (rw [hb]); clear hb; generalize wx.alloc (.cells Try.zeroCells30 30) = wn at *
        refine hK.out _ _ ?_ (fun hHeld => ?_)
        · exact ⟨HS.out.s, HS.out.p⟩
        clear hK K
        (try simp only [Act.put, List.setIfInBounds_toArray, List.set_cons_zero, List.set_cons_succ])
        exact SH12.out _ _ _ _ HS HL HR HZ
    case sp4 =>
      intro wx b14 b15 HS HA HR
      refine wpAnyM_twoS 4 16 rfl rfl (by kernel_rfl) (fun K hK => ?_) (fun K hK => ?_)
      · go_simp; obtain ⟨b4, hb⟩ : ∃ x, wx.heap.size = x := ⟨_, rfl⟩; have HL := Lib.hid (mv_slc HS.out (k : Int) b4 hb); have hBB := (Below.refl wx.heap.size wx).alloc (Nat.le_refl _) (.cells #[.int .i64 (k : Int)] 3); (try (have HA2 := Lib.hid (And.intro (HA.out.1.below hBB) HA.out.2); clear HA; have HA := HA2; clear HA2)); (try (have HR2 := Lib.hid (And.intro (HR.out.1.below hBB) HR.out.2); clear HR; have HR := HR2; clear HR2)); (try (have HZ2 := Lib.hid (And.intro (HZ.out.1.below hBB) HZ.out.2); clear HZ; have HZ := HZ2; clear HZ2)); have HS2 := Lib.hid (HS.out.down hBB); clear HS; have HS := HS2; clear HS2 hBB; (rw [hb]); clear hb; generalize wx.alloc (.cells #[.int .i64 (k : Int)] 3) = wn at *
        refine hK.out _ _ ?_ (fun hHeld => ?_)
        · exact ⟨HS.out.s, HS.out.p⟩
        clear hK K
        (try simp only [Act.put, List.setIfInBounds_toArray, List.set_cons_zero, List.set_cons_succ])
        exact SH10.out _ _ _ _ HS HL HA HR
      · go_simp; obtain ⟨b16, hb⟩ : ∃ x, wx.heap.size = x := ⟨_, rfl⟩; have HZ := Lib.hid (mv_res HS.out b16 hb); have hBB := (Below.refl wx.heap.size wx).alloc (Nat.le_refl _) (.cells #[.bool false, .int .i64 0, .int .i64 0] 43); (try (have HL2 := Lib.hid (HL.out.below hBB); clear HL; have HL := HL2; clear HL2)); (try (have HA2 := Lib.hid (And.intro (HA.out.1.below hBB) HA.out.2); clear HA; have HA := HA2; clear HA2)); (try (have HR2 := Lib.hid (And.intro (HR.out.1.below hBB) HR.out.2); clear HR; have HR := HR2; clear HR2)); have HS2 := Lib.hid (HS.out.down hBB); clear HS; have HS := HS2; clear HS2 hBB; (rw [hb]); clear hb; generalize wx.alloc (.cells #[.bool false, .int .i64 0, .int .i64 0] 43) = wn at *
        refine hK.out _ _ ?_ (fun hHeld => ?_)
        · exact ⟨HS.out.s, HS.out.p⟩
        clear hK K
        (try simp only [Act.put, List.setIfInBounds_toArray, List.set_cons_zero, List.set_cons_succ])
        clear hHeld
        revert HZ
        revert HR
        revert HA
        revert HS
        revert b16
        revert b15
        revert b14
        revert wn
        exact SH13.out
    case sp5 =>
      intro wx b14 b16 HS HA HZ
      refine wpAnyM_twoS 4 15 rfl rfl (by kernel_rfl) (fun K hK => ?_) (fun K hK => ?_)
      · go_simp; obtain ⟨b4, hb⟩ : ∃ x, wx.heap.size = x := ⟨_, rfl⟩; have HL := Lib.hid (mv_slc HS.out (k : Int) b4 hb); have hBB := (Below.refl wx.heap.size wx).alloc (Nat.le_refl _) (.cells #[.int .i64 (k : Int)] 3); (try (have HA2 := Lib.hid (And.intro (HA.out.1.below hBB) HA.out.2); clear HA; have HA := HA2; clear HA2)); (try (have HR2 := Lib.hid (And.intro (HR.out.1.below hBB) HR.out.2); clear HR; have HR := HR2; clear HR2)); (try (have HZ2 := Lib.hid (And.intro (HZ.out.1.below hBB) HZ.out.2); clear HZ; have HZ := HZ2; clear HZ2)); have HS2 := Lib.hid (HS.out.down hBB); clear HS; have HS := HS2; clear HS2 hBB; (rw [hb]); clear hb; generalize wx.alloc (.cells #[.int .i64 (k : Int)] 3) = wn at *
        refine hK.out _ _ ?_ (fun hHeld => ?_)
        · exact ⟨HS.out.s, HS.out.p⟩
        clear hK K
        (try simp only [Act.put, List.setIfInBounds_toArray, List.set_cons_zero, List.set_cons_succ])
        exact SH11.out _ _ _ _ HS HL HA HZ
      · go_simp; obtain ⟨b15, hb⟩ : ∃ x, wx.heap.size = x := ⟨_, rfl⟩; have HR := Lib.hid (mv_cov HS.out b15 hb); have hBB := (Below.refl wx.heap.size wx).alloc (Nat.le_refl _) (.cells Try.zeroCells30 30); (try (have HL2 := Lib.hid (HL.out.below hBB); clear HL; have HL := HL2; clear HL2)); (try (have HA2 := Lib.hid (And.intro (HA.out.1.below hBB) HA.out.2); clear HA; have HA := HA2; clear HA2)); (try (have HZ2 := Lib.hid (And.intro (HZ.out.1.below hBB) HZ.out.2); clear HZ; have HZ := HZ2; clear HZ2)); have HS2 := Lib.hid (HS.out.down hBB); clear HS; have HS := HS2; clear HS2 hBB; (rw [hb]); clear hb; generalize wx.alloc (.cells Try.zeroCells30 30) = wn at *
        refine hK.out _ _ ?_ (fun hHeld => ?_)
        · exact ⟨HS.out.s, HS.out.p⟩
        clear hK K
        (try simp only [Act.put, List.setIfInBounds_toArray, List.set_cons_zero, List.set_cons_succ])
        exact SH13.out _ _ _ _ HS HA HR HZ
    case sp6 =>
      intro wx b15 b16 HS HR HZ
      refine wpAnyM_twoS 4 14 rfl rfl (by kernel_rfl) (fun K hK => ?_) (fun K hK => ?_)
      · go_simp; obtain ⟨b4, hb⟩ : ∃ x, wx.heap.size = x := ⟨_, rfl⟩; have HL := Lib.hid (mv_slc HS.out (k : Int) b4 hb); have hBB := (Below.refl wx.heap.size wx).alloc (Nat.le_refl _) (.cells #[.int .i64 (k : Int)] 3); (try (have HA2 := Lib.hid (And.intro (HA.out.1.below hBB) HA.out.2); clear HA; have HA := HA2; clear HA2)); (try (have HR2 := Lib.hid (And.intro (HR.out.1.below hBB) HR.out.2); clear HR; have HR := HR2; clear HR2)); (try (have HZ2 := Lib.hid (And.intro (HZ.out.1.below hBB) HZ.out.2); clear HZ; have HZ := HZ2; clear HZ2)); have HS2 := Lib.hid (HS.out.down hBB); clear HS; have HS := HS2; clear HS2 hBB; (rw [hb]); clear hb; generalize wx.alloc (.cells #[.int .i64 (k : Int)] 3) = wn at *
        refine hK.out _ _ ?_ (fun hHeld => ?_)
        · exact ⟨HS.out.s, HS.out.p⟩
        clear hK K
        (try simp only [Act.put, List.setIfInBounds_toArray, List.set_cons_zero, List.set_cons_succ])
        exact SH12.out _ _ _ _ HS HL HR HZ
      · go_simp; obtain ⟨b14, hb⟩ : ∃ x, wx.heap.size = x := ⟨_, rfl⟩; have HA := Lib.hid (mv_st HS.out b14 hb); have hBB := (Below.refl wx.heap.size wx).alloc (Nat.le_refl _) (.cells #[.int .i64 0, .int .i64 0, .int .i64 0, .int .i64 0, .int .i64 0, .int .i64 0, .int .i64 0, .int .i64 0, .int .i64 0, .int .i64 0, .int .i64 0, .int .i64 0, .int .i64 0, .int .i64 0, .int .i64 0, .int .i64 0, .int .i64 0, .int .i64 0, .int .i64 0, .int .i64 0, .int .i64 0, .int .i64 0, .int .i64 0, .int .i64 0] 27); (try (have HL2 := Lib.hid (HL.out.below hBB); clear HL; have HL := HL2; clear HL2)); (try (have HR2 := Lib.hid (And.intro (HR.out.1.below hBB) HR.out.2); clear HR; have HR := HR2; clear HR2)); (try (have HZ2 := Lib.hid (And.intro (HZ.out.1.below hBB) HZ.out.2); clear HZ; have HZ := HZ2; clear HZ2)); have HS2 := Lib.hid (HS.out.down hBB); clear HS; have HS := HS2; clear HS2 hBB; (rw [hb]); clear hb; generalize wx.alloc (.cells #[.int .i64 0, .int .i64 0, .int .i64 0, .int .i64 0, .int .i64 0, .int .i64 0, .int .i64 0, .int .i64 0, .int .i64 0, .int .i64 0, .int .i64 0, .int .i64 0, .int .i64 0, .int .i64 0, .int .i64 0, .int .i64 0, .int .i64 0, .int .i64 0, .int .i64 0, .int .i64 0, .int .i64 0, .int .i64 0, .int .i64 0, .int .i64 0] 27) = wn at *
        refine hK.out _ _ ?_ (fun hHeld => ?_)
        · exact ⟨HS.out.s, HS.out.p⟩
        clear hK K
        (try simp only [Act.put, List.setIfInBounds_toArray, List.set_cons_zero, List.set_cons_succ])
        exact SH13.out _ _ _ _ HS HA HR HZ
    case sp7 =>
      intro wx b4 b14 HS HA
      refine wpAnyM_threeS 9 15 16 rfl rfl rfl (by kernel_rfl) (fun K hK => ?_) (fun K hK => ?_) (fun K hK => ?_)
      · go_simp
        (refine (OM.out _ HS.out.flg.cell HS.out.flg.free).mono ?_); rintro e wn ⟨rfl, hu7⟩; (try (have HA2 := Lib.hid (And.intro (HA.out.1.upd hu7 (by have := HA.out.2; have := HS.out.ord; simp; omega)) HA.out.2); clear HA; have HA := HA2; clear HA2)); (try (have HR2 := Lib.hid (And.intro (HR.out.1.upd hu7 (by have := HR.out.2; have := HS.out.ord; simp; omega)) HR.out.2); clear HR; have HR := HR2; clear HR2)); (try (have HZ2 := Lib.hid (And.intro (HZ.out.1.upd hu7 (by have := HZ.out.2; have := HS.out.ord; simp; omega)) HZ.out.2); clear HZ; have HZ := HZ2; clear HZ2)); have HS2 := Lib.hid (HS.out.upd hu7); clear HS; have HS := HS2; clear HS2 hu7; (simp only [res3])
        (try dsimp only)
        (try simp only [Act.put, List.setIfInBounds_toArray, List.set_cons_zero, List.set_cons_succ])
        refine hK.out _ _ ?_ (fun hHeld => ?_)
        · exact ⟨HS.out.s, HS.out.p⟩
        clear hK K
        (try simp only [Act.put, List.setIfInBounds_toArray, List.set_cons_zero, List.set_cons_succ])
        refine wpAnyM_take 10 (v := ?_) rfl (by kernel_rfl) (fun _ _ _ h => h) (Or.inl ⟨by rfl, ?_⟩) (by assumption) ?_
        rotate_left
        · (intro wz hSw; (try dsimp only at hSw); go_simp; (try with_reducible rfl))
        (try simp only [Act.put, List.setIfInBounds_toArray, List.set_cons_zero, List.set_cons_succ])
        refine wpAnyM_take 11 (v := ?_) rfl (by kernel_rfl) (fun _ _ _ h => h) (Or.inl ⟨by rfl, ?_⟩) (by assumption) ?_
        rotate_left
        · (intro wz hSw; (try dsimp only at hSw); go_simp; (try with_reducible rfl))
        (try simp only [Act.put, List.setIfInBounds_toArray, List.set_cons_zero, List.set_cons_succ])
        refine wpAnyM_take 12 (v := ?_) rfl (by kernel_rfl) (fun _ _ _ h => h) (Or.inl ⟨by rfl, ?_⟩) (by assumption) ?_
        rotate_left
        · (intro wz hSw; (try dsimp only at hSw); go_simp; (try with_reducible rfl))
        (try simp only [Act.put, List.setIfInBounds_toArray, List.set_cons_zero, List.set_cons_succ])
        refine wpAnyM_take 13 (v := ?_) rfl (by kernel_rfl) (fun _ _ _ h => h) (Or.inl ⟨by rfl, ?_⟩) (by assumption) ?_
        rotate_left
        · (intro wz hSw; (try dsimp only at hSw); go_simp; (try with_reducible rfl))
        (try simp only [Act.put, List.setIfInBounds_toArray, List.set_cons_zero, List.set_cons_succ])
        exact SH14.out _ _ _ HS HA
      · go_simp; obtain ⟨b15, hb⟩ : ∃ x, wx.heap.size = x := ⟨_, rfl⟩; have HR := Lib.hid (mv_cov HS.out b15 hb); have hBB := (Below.refl wx.heap.size wx).alloc (Nat.le_refl _) (.cells Try.zeroCells30 30); (try (have HL2 := Lib.hid (HL.out.below hBB); clear HL; have HL := HL2; clear HL2)); (try (have HA2 := Lib.hid (And.intro (HA.out.1.below hBB) HA.out.2); clear HA; have HA := HA2; clear HA2)); (try (have HZ2 := Lib.hid (And.intro (HZ.out.1.below hBB) HZ.out.2); clear HZ; have HZ := HZ2; clear HZ2)); have HS2 := Lib.hid (HS.out.down hBB); clear HS; have HS := HS2; clear HS2 hBB; (rw [hb]); clear hb; generalize wx.alloc (.cells Try.zeroCells30 30) = wn at *
        refine hK.out _ _ ?_ (fun hHeld => ?_)
        · exact ⟨HS.out.s, HS.out.p⟩
        clear hK K
        (try simp only [Act.put, List.setIfInBounds_toArray, List.set_cons_zero, List.set_cons_succ])
        clear hHeld
        revert HR
        revert HA
        revert HS
        revert b15
        revert b14
        revert b4
        revert wn
        exact SH17.out
      · go_simp; obtain ⟨b16, hb⟩ : ∃ x, wx.heap.size = x := ⟨_, rfl⟩; have HZ := Lib.hid (mv_res HS.out b16 hb); have hBB := (Below.refl wx.heap.size wx).alloc (Nat.le_refl _) (.cells #[.bool false, .int .i64 0, .int .i64 0] 43); (try (have HL2 := Lib.hid (HL.out.below hBB); clear HL; have HL := HL2; clear HL2)); (try (have HA2 := Lib.hid (And.intro (HA.out.1.below hBB) HA.out.2); clear HA; have HA := HA2; clear HA2)); (try (have HR2 := Lib.hid (And.intro (HR.out.1.below hBB) HR.out.2); clear HR; have HR := HR2; clear HR2)); have HS2 := Lib.hid (HS.out.down hBB); clear HS; have HS := HS2; clear HS2 hBB; (rw [hb]); clear hb; generalize wx.alloc (.cells #[.bool false, .int .i64 0, .int .i64 0] 43) = wn at *
        refine hK.out _ _ ?_ (fun hHeld => ?_)
        · exact ⟨HS.out.s, HS.out.p⟩
        clear hK K
        (try simp only [Act.put, List.setIfInBounds_toArray, List.set_cons_zero, List.set_cons_succ])
        clear hHeld
        revert HZ
        revert HA
        revert HS
        revert b16
        revert b14
        revert b4
        revert wn
        exact SH18.out
    case sp8 =>
      intro wx b4 b15 HS HR
      refine wpAnyM_threeS 9 14 16 rfl rfl rfl (by kernel_rfl) (fun K hK => ?_) (fun K hK => ?_) (fun K hK => ?_)
      · go_simp
        (refine (OM.out _ HS.out.flg.cell HS.out.flg.free).mono ?_); rintro e wn ⟨rfl, hu7⟩; (try (have HA2 := Lib.hid (And.intro (HA.out.1.upd hu7 (by have := HA.out.2; have := HS.out.ord; simp; omega)) HA.out.2); clear HA; have HA := HA2; clear HA2)); (try (have HR2 := Lib.hid (And.intro (HR.out.1.upd hu7 (by have := HR.out.2; have := HS.out.ord; simp; omega)) HR.out.2); clear HR; have HR := HR2; clear HR2)); (try (have HZ2 := Lib.hid (And.intro (HZ.out.1.upd hu7 (by have := HZ.out.2; have := HS.out.ord; simp; omega)) HZ.out.2); clear HZ; have HZ := HZ2; clear HZ2)); have HS2 := Lib.hid (HS.out.upd hu7); clear HS; have HS := HS2; clear HS2 hu7; (simp only [res3])
        (try dsimp only)
        (try simp only [Act.put, List.setIfInBounds_toArray, List.set_cons_zero, List.set_cons_succ])
        refine hK.out _ _ ?_ (fun hHeld => ?_)
        · exact ⟨HS.out.s, HS.out.p⟩
        clear hK K
        (try simp only [Act.put, List.setIfInBounds_toArray, List.set_cons_zero, List.set_cons_succ])
        refine wpAnyM_take 10 (v := ?_) rfl (by kernel_rfl) (fun _ _ _ h => h) (Or.inl ⟨by rfl, ?_⟩) (by assumption) ?_
        rotate_left
        · (intro wz hSw; (try dsimp only at hSw); go_simp; (try with_reducible rfl))
        (try simp only [Act.put, List.setIfInBounds_toArray, List.set_cons_zero, List.set_cons_succ])
        refine wpAnyM_take 11 (v := ?_) rfl (by kernel_rfl) (fun _ _ _ h => h) (Or.inl ⟨by rfl, ?_⟩) (by assumption) ?_
        rotate_left
        · (intro wz hSw; (try dsimp only at hSw); go_simp; (try with_reducible rfl))
        (try simp only [Act.put, List.setIfInBounds_toArray, List.set_cons_zero, List.set_cons_succ])
        refine wpAnyM_take 12 (v := ?_) rfl (by kernel_rfl) (fun _ _ _ h => h) (Or.inl ⟨by rfl, ?_⟩) (by assumption) ?_
        rotate_left
        · (intro wz hSw; (try dsimp only at hSw); go_simp; (try with_reducible rfl))
        (try simp only [Act.put, List.setIfInBounds_toArray, List.set_cons_zero, List.set_cons_succ])
        refine wpAnyM_take 13 (v := ?_) rfl (by kernel_rfl) (fun _ _ _ h => h) (Or.inl ⟨by rfl, ?_⟩) (by assumption) ?_
        rotate_left
        · (intro wz hSw; (try dsimp only at hSw); go_simp; (try with_reducible rfl))
        (try simp only [Act.put, List.setIfInBounds_toArray, List.set_cons_zero, List.set_cons_succ])
        exact SH15.out _ _ _ HS HR
      · go_simp; obtain ⟨b14, hb⟩ : ∃ x, wx.heap.size = x := ⟨_, rfl⟩; have HA := Lib.hid (mv_st HS.out b14 hb); have hBB := (Below.refl wx.heap.size wx).alloc (Nat.le_refl _) (.cells #[.int .i64 0, .int .i64 0, .int .i64 0, .int .i64 0, .int .i64 0, .int .i64 0, .int .i64 0, .int .i64 0, .int .i64 0, .int .i64 0, .int .i64 0, .int .i64 0, .int .i64 0, .int .i64 0, .int .i64 0, .int .i64 0, .int .i64 0, .int .i64 0, .int .i64 0, .int .i64 0, .int .i64 0, .int .i64 0, .int .i64 0, .int .i64 0] 27); (try (have HL2 := Lib.hid (HL.out.below hBB); clear HL; have HL := HL2; clear HL2)); (try (have HR2 := Lib.hid (And.intro (HR.out.1.below hBB) HR.out.2); clear HR; have HR := HR2; clear HR2)); (try (have HZ2 := Lib.hid (And.intro (HZ.out.1.below hBB) HZ.out.2); clear HZ; have HZ := HZ2; clear HZ2)); have HS2 := Lib.hid (HS.out.down hBB); clear HS; have HS := HS2; clear HS2 hBB; (rw [hb]); clear hb; generalize wx.alloc (.cells #[.int .i64 0, .int .i64 0, .int .i64 0, .int .i64 0, .int .i64 0, .int .i64 0, .int .i64 0, .int .i64 0, .int .i64 0, .int .i64 0, .int .i64 0, .int .i64 0, .int .i64 0, .int .i64 0, .int .i64 0, .int .i64 0, .int .i64 0, .int .i64 0, .int .i64 0, .int .i64 0, .int .i64 0, .int .i64 0, .int .i64 0, .int .i64 0] 27) = wn at *
        refine hK.out _ _ ?_ (fun hHeld => ?_)
        · exact ⟨HS.out.s, HS.out.p⟩
        clear hK K
        (try simp only [Act.put, List.setIfInBounds_toArray, List.set_cons_zero, List.set_cons_succ])
        exact SH17.out _ _ _ _ HS HA HR
      · go_simp; obtain ⟨b16, hb⟩ : ∃ x, wx.heap.size = x := ⟨_, rfl⟩; have HZ := Lib.hid (mv_res HS.out b16 hb); have hBB := (Below.refl wx.heap.size wx).alloc (Nat.le_refl _) (.cells #[.bool false, .int .i64 0, .int .i64 0] 43); (try (have HL2 := Lib.hid (HL.out.below hBB); clear HL; have HL := HL2; clear HL2)); (try (have HA2 := Lib.hid (And.intro (HA.out.1.below hBB) HA.out.2); clear HA; have HA := HA2; clear HA2)); (try (have HR2 := Lib.hid (And.intro (HR.out.1.below hBB) HR.out.2); clear HR; have HR := HR2; clear HR2)); have HS2 := Lib.hid (HS.out.down hBB); clear HS; have HS := HS2; clear HS2 hBB; (rw [hb]); clear hb; generalize wx.alloc (.cells #[.bool false, .int .i64 0, .int .i64 0] 43) = wn at *
        refine hK.out _ _ ?_ (fun hHeld => ?_)
        · exact ⟨HS.out.s, HS.out.p⟩
        clear hK K
        (try simp only [Act.put, List.setIfInBounds_toArray, List.set_cons_zero, List.set_cons_succ])
        clear hHeld
        revert HZ
        revert HR
        revert HS
        revert b16
        revert b15
        revert b4
        revert wn
        exact SH19.out
    case sp9 =>
      intro wx b4 b16 HS HZ
      refine wpAnyM_threeS 9 14 15 rfl rfl rfl (by kernel_rfl) (fun K hK => ?_) (fun K hK => ?_) (fun K hK => ?_)
      · go_simp
        (refine (OM.out _ HS.out.flg.cell HS.out.flg.free).mono ?_); rintro e wn ⟨rfl, hu7⟩; (try (have HA2 := Lib.hid (And.intro (HA.out.1.upd hu7 (by have := HA.out.2; have := HS.out.ord; simp; omega)) HA.out.2); clear HA; have HA := HA2; clear HA2)); (try (have HR2 := Lib.hid (And.intro (HR.out.1.upd hu7 (by have := HR.out.2; have := HS.out.ord; simp; omega)) HR.out.2); clear HR; have HR := HR2; clear HR2)); (try (have HZ2 := Lib.hid (And.intro (HZ.out.1.upd hu7 (by have := HZ.out.2; have := HS.out.ord; simp; omega)) HZ.out.2); clear HZ; have HZ := HZ2; clear HZ2)); have HS2 := Lib.hid (HS.out.upd hu7); clear HS; have HS := HS2; clear HS2 hu7; (simp only [res3])
        (try dsimp only)
        (try simp only [Act.put, List.setIfInBounds_toArray, List.set_cons_zero, List.set_cons_succ])
        refine hK.out _ _ ?_ (fun hHeld => ?_)
        · exact ⟨HS.out.s, HS.out.p⟩
        clear hK K
        (try simp only [Act.put, List.setIfInBounds_toArray, List.set_cons_zero, List.set_cons_succ])
        refine wpAnyM_take 10 (v := ?_) rfl (by kernel_rfl) (fun _ _ _ h => h) (Or.inl ⟨by rfl, ?_⟩) (by assumption) ?_
        rotate_left
        · (intro wz hSw; (try dsimp only at hSw); go_simp; (try with_reducible rfl))
        (try simp only [Act.put, List.setIfInBounds_toArray, List.set_cons_zero, List.set_cons_succ])
        refine wpAnyM_take 11 (v := ?_) rfl (by kernel_rfl) (fun _ _ _ h => h) (Or.inl ⟨by rfl, ?_⟩) (by assumption) ?_
        rotate_left
        · (intro wz hSw; (try dsimp only at hSw); go_simp; (try with_reducible rfl))
        (try simp only [Act.put, List.setIfInBounds_toArray, List.set_cons_zero, List.set_cons_succ])
        refine wpAnyM_take 12 (v := ?_) rfl (by kernel_rfl) (fun _ _ _ h => h) (Or.inl ⟨by rfl, ?_⟩) (by assumption) ?_
        rotate_left
        · (intro wz hSw; (try dsimp only at hSw); go_simp; (try with_reducible rfl))
        (try simp only [Act.put, List.setIfInBounds_toArray, List.set_cons_zero, List.set_cons_succ])
        refine wpAnyM_take 13 (v := ?_) rfl (by kernel_rfl) (fun _ _ _ h => h) (Or.inl ⟨by rfl, ?_⟩) (by assumption) ?_
        rotate_left
        · (intro wz hSw; (try dsimp only at hSw); go_simp; (try with_reducible rfl))
        (try simp only [Act.put, List.setIfInBounds_toArray, List.set_cons_zero, List.set_cons_succ])
        exact SH16.out _ _ _ HS HZ
      · go_simp; obtain ⟨b14, hb⟩ : ∃ x, wx.heap.size = x := ⟨_, rfl⟩; have HA := Lib.hid (mv_st HS.out b14 hb); have hBB := (Below.refl wx.heap.size wx).alloc (Nat.le_refl _) (.cells #[.int .i64 0, .int .i64 0, .int .i64 0, .int .i64 0, .int .i64 0, .int .i64 0, .int .i64 0, .int .i64 0, .int .i64 0, .int .i64 0, .int .i64 0, .int .i64 0, .int .i64 0, .int .i64 0, .int .i64 0, .int .i64 0, .int .i64 0, .int .i64 0, .int .i64 0, .int .i64 0, .int .i64 0, .int .i64 0, .int .i64 0, .int .i64 0] 27); (try (have HL2 := Lib.hid (HL.out.below hBB); clear HL; have HL := HL2; clear HL2)); (try (have HR2 := Lib.hid (And.intro (HR.out.1.below hBB) HR.out.2); clear HR; have HR := HR2; clear HR2)); (try (have HZ2 := Lib.hid (And.intro (HZ.out.1.below hBB) HZ.out.2); clear HZ; have HZ := HZ2; clear HZ2)); have HS2 := Lib.hid (HS.out.down hBB); clear HS; have HS := HS2; clear HS2 hBB; (rw [hb]); clear hb; generalize wx.alloc (.cells #[.int .i64 0, .int .i64 0, .int .i64 0, .int .i64 0, .int .i64 0, .int .i64 0, .int .i64 0, .int .i64 0, .int .i64 0, .int .i64 0, .int .i64 0, .int .i64 0, .int .i64 0, .int .i64 0, .int .i64 0, .int .i64 0, .int .i64 0, .int .i64 0, .int .i64 0, .int .i64 0, .int .i64 0, .int .i64 0, .int .i64 0, .int .i64 0] 27) = wn at *
        refine hK.out _ _ ?_ (fun hHeld => ?_)
        · exact ⟨HS.out.s, HS.out.p⟩
        clear hK K
        (try simp only [Act.put, List.setIfInBounds_toArray, List.set_cons_zero, List.set_cons_succ])
        exact SH18.out _ _ _ _ HS HA HZ
      · go_simp; obtain ⟨b15, hb⟩ : ∃ x, wx.heap.size = x := ⟨_, rfl⟩; have HR := Lib.hid (mv_cov HS.out b15 hb); have hBB := (Below.refl wx.heap.size wx).alloc (Nat.le_refl _) (.cells Try.zeroCells30 30); (try (have HL2 := Lib.hid (HL.out.below hBB); clear HL; have HL := HL2; clear HL2)); (try (have HA2 := Lib.hid (And.intro (HA.out.1.below hBB) HA.out.2); clear HA; have HA := HA2; clear HA2)); (try (have HZ2 := Lib.hid (And.intro (HZ.out.1.below hBB) HZ.out.2); clear HZ; have HZ := HZ2; clear HZ2)); have HS2 := Lib.hid (HS.out.down hBB); clear HS; have HS := HS2; clear HS2 hBB; (rw [hb]); clear hb; generalize wx.alloc (.cells Try.zeroCells30 30) = wn at *
        refine hK.out _ _ ?_ (fun hHeld => ?_)
        · exact ⟨HS.out.s, HS.out.p⟩
        clear hK K
        (try simp only [Act.put, List.setIfInBounds_toArray, List.set_cons_zero, List.set_cons_succ])
        exact SH19.out _ _ _ _ HS HR HZ
    case sp10 =>
      intro wx b4 b14 b15 HS HL HA HR
      refine wpAnyM_twoS 5 16 rfl rfl (by kernel_rfl) (fun K hK => ?_) (fun K hK => ?_)
      · go_simp
        (refine (pick_any _ 1 _ (fun _ => (k : Int)) _ HL.out (by omega)).mono ?_); rintro e wn ⟨rfl, hb6⟩; (rw [EN.out]); have HS2 := Lib.hid (HS.out.down hb6); clear HS; have HS := HS2; clear HS2 HL; (try (have HA2 := Lib.hid (And.intro (HA.out.1.below hb6) HA.out.2); clear HA; have HA := HA2; clear HA2)); (try (have HR2 := Lib.hid (And.intro (HR.out.1.below hb6) HR.out.2); clear HR; have HR := HR2; clear HR2)); (try (have HZ2 := Lib.hid (And.intro (HZ.out.1.below hb6) HZ.out.2); clear HZ; have HZ := HZ2; clear HZ2)); clear hb6
        (try dsimp only)
        (try simp only [Act.put, List.setIfInBounds_toArray, List.set_cons_zero, List.set_cons_succ])
        refine hK.out _ _ ?_ (fun hHeld => ?_)
        · exact ⟨HS.out.s, HS.out.p⟩
        clear hK K
        (try simp only [Act.put, List.setIfInBounds_toArray, List.set_cons_zero, List.set_cons_succ])
        refine wpAnyM_take 8 (v := ?_) rfl (by kernel_rfl) (fun _ _ _ h => h) (Or.inl ⟨by rfl, ?_⟩) (by assumption) ?_
        rotate_left
        · (intro wz hSw; refine Eq.trans (run_build_obs4 (.tmp 64) (.tmp 65) (.tmp 66) (.const (.int .i64 1000)) (by rfl) (by rfl) (by rfl) (by rfl) (by rfl)) ?_; rw [OB.out])
        (try simp only [Act.put, List.setIfInBounds_toArray, List.set_cons_zero, List.set_cons_succ])
        exact SH17.out _ _ _ _ HS HA HR
      · go_simp; obtain ⟨b16, hb⟩ : ∃ x, wx.heap.size = x := ⟨_, rfl⟩; have HZ := Lib.hid (mv_res HS.out b16 hb); have hBB := (Below.refl wx.heap.size wx).alloc (Nat.le_refl _) (.cells #[.bool false, .int .i64 0, .int .i64 0] 43); (try (have HL2 := Lib.hid (HL.out.below hBB); clear HL; have HL := HL2; clear HL2)); (try (have HA2 := Lib.hid (And.intro (HA.out.1.below hBB) HA.out.2); clear HA; have HA := HA2; clear HA2)); (try (have HR2 := Lib.hid (And.intro (HR.out.1.below hBB) HR.out.2); clear HR; have HR := HR2; clear HR2)); have HS2 := Lib.hid (HS.out.down hBB); clear HS; have HS := HS2; clear HS2 hBB; (rw [hb]); clear hb; generalize wx.alloc (.cells #[.bool false, .int .i64 0, .int .i64 0] 43) = wn at *
        refine hK.out _ _ ?_ (fun hHeld => ?_)
        · exact ⟨HS.out.s, HS.out.p⟩
        clear hK K
        (try simp only [Act.put, List.setIfInBounds_toArray, List.set_cons_zero, List.set_cons_succ])
        clear hHeld
        revert HZ
        revert HR
        revert HA
        revert HL
        revert HS
        revert b16
        revert b15
        revert b14
        revert b4
        revert wn
        exact SH20.out
    case sp11 =>
      intro wx b4 b14 b16 HS HL HA HZ
      refine wpAnyM_twoS 5 15 rfl rfl (by kernel_rfl) (fun K hK => ?_) (fun K hK => ?_)
      · go_simp
        (refine (pick_any _ 1 _ (fun _ => (k : Int)) _ HL.out (by omega)).mono ?_); rintro e wn ⟨rfl, hb6⟩; (rw [EN.out]); have HS2 := Lib.hid (HS.out.down hb6); clear HS; have HS := HS2; clear HS2 HL; (try (have HA2 := Lib.hid (And.intro (HA.out.1.below hb6) HA.out.2); clear HA; have HA := HA2; clear HA2)); (try (have HR2 := Lib.hid (And.intro (HR.out.1.below hb6) HR.out.2); clear HR; have HR := HR2; clear HR2)); (try (have HZ2 := Lib.hid (And.intro (HZ.out.1.below hb6) HZ.out.2); clear HZ; have HZ := HZ2; clear HZ2)); clear hb6
        (try dsimp only)
        (try simp only [Act.put, List.setIfInBounds_toArray, List.set_cons_zero, List.set_cons_succ])
        refine hK.out _ _ ?_ (fun hHeld => ?_)
        · exact ⟨HS.out.s, HS.out.p⟩
        clear hK K
        (try simp only [Act.put, List.setIfInBounds_toArray, List.set_cons_zero, List.set_cons_succ])
        refine wpAnyM_take 8 (v := ?_) rfl (by kernel_rfl) (fun _ _ _ h => h) (Or.inl ⟨by rfl, ?_⟩) (by assumption) ?_
        rotate_left
        · (intro wz hSw; refine Eq.trans (run_build_obs4 (.tmp 64) (.tmp 65) (.tmp 66) (.const (.int .i64 1000)) (by rfl) (by rfl) (by rfl) (by rfl) (by rfl)) ?_; rw [OB.out])
        (try simp only [Act.put, List.setIfInBounds_toArray, List.set_cons_zero, List.set_cons_succ])
        exact SH18.out _ _ _ _ HS HA HZ
      · go_simp; obtain ⟨b15, hb⟩ : ∃ x, wx.heap.size = x := ⟨_, rfl⟩; have HR := Lib.hid (mv_cov HS.out b15 hb); have hBB := (Below.refl wx.heap.size wx).alloc (Nat.le_refl _) (.cells Try.zeroCells30 30); (try (have HL2 := Lib.hid (HL.out.below hBB); clear HL; have HL := HL2; clear HL2)); (try (have HA2 := Lib.hid (And.intro (HA.out.1.below hBB) HA.out.2); clear HA; have HA := HA2; clear HA2)); (try (have HZ2 := Lib.hid (And.intro (HZ.out.1.below hBB) HZ.out.2); clear HZ; have HZ := HZ2; clear HZ2)); have HS2 := Lib.hid (HS.out.down hBB); clear HS; have HS := HS2; clear HS2 hBB; (rw [hb]); clear hb; generalize wx.alloc (.cells Try.zeroCells30 30) = wn at *
        refine hK.out _ _ ?_ (fun hHeld => ?_)
        · exact ⟨HS.out.s, HS.out.p⟩
        clear hK K
        (try simp only [Act.put, List.setIfInBounds_toArray, List.set_cons_zero, List.set_cons_succ])
        exact SH20.out _ _ _ _ _ HS HL HA HR HZ
    case sp12 =>
      intro wx b4 b15 b16 HS HL HR HZ
      refine wpAnyM_twoS 5 14 rfl rfl (by kernel_rfl) (fun K hK => ?_) (fun K hK => ?_)
      · go_simp
        (refine (pick_any _ 1 _ (fun _ => (k : Int)) _ HL.out (by omega)).mono ?_); rintro e wn ⟨rfl, hb6⟩; (rw [EN.out]); have HS2 := Lib.hid (HS.out.down hb6); clear HS; have HS := HS2; clear HS2 HL; (try (have HA2 := Lib.hid (And.intro (HA.out.1.below hb6) HA.out.2); clear HA; have HA := HA2; clear HA2)); (try (have HR2 := Lib.hid (And.intro (HR.out.1.below hb6) HR.out.2); clear HR; have HR := HR2; clear HR2)); (try (have HZ2 := Lib.hid (And.intro (HZ.out.1.below hb6) HZ.out.2); clear HZ; have HZ := HZ2; clear HZ2)); clear hb6
        (try dsimp only)
        (try simp only [Act.put, List.setIfInBounds_toArray, List.set_cons_zero, List.set_cons_succ])
        refine hK.out _ _ ?_ (fun hHeld => ?_)
        · exact ⟨HS.out.s, HS.out.p⟩
        clear hK K
        (try simp only [Act.put, List.setIfInBounds_toArray, List.set_cons_zero, List.set_cons_succ])
        refine wpAnyM_take 8 (v := ?_) rfl (by kernel_rfl) (fun _ _ _ h => h) (Or.inl ⟨by rfl, ?_⟩) (by assumption) ?_
        rotate_left
        · (intro wz hSw; refine Eq.trans (run_build_obs4 (.tmp 64) (.tmp 65) (.tmp 66) (.const (.int .i64 1000)) (by rfl) (by rfl) (by rfl) (by rfl) (by rfl)) ?_; rw [OB.out])
        (try simp only [Act.put, List.setIfInBounds_toArray, List.set_cons_zero, List.set_cons_succ])
        exact SH19.out _ _ _ _ HS HR HZ
      · go_simp; obtain ⟨b14, hb⟩ : ∃ x, wx.heap.size = x := ⟨_, rfl⟩; have HA := Lib.hid (mv_st HS.out b14 hb); have hBB := (Below.refl wx.heap.size wx).alloc (Nat.le_refl _) (.cells #[.int .i64 0, .int .i64 0, .int .i64 0, .int .i64 0, .int .i64 0, .int .i64 0, .int .i64 0, .int .i64 0, .int .i64 0, .int .i64 0, .int .i64 0, .int .i64 0, .int .i64 0, .int .i64 0, .int .i64 0, .int .i64 0, .int .i64 0, .int .i64 0, .int .i64 0, .int .i64 0, .int .i64 0, .int .i64 0, .int .i64 0, .int .i64 0] 27); (try (have HL2 := Lib.hid (HL.out.below hBB); clear HL; have HL := HL2; clear HL2)); (try (have HR2 := Lib.hid (And.intro (HR.out.1.below hBB) HR.out.2); clear HR; have HR := HR2; clear HR2)); (try (have HZ2 := Lib.hid (And.intro (HZ.out.1.below hBB) HZ.out.2); clear HZ; have HZ := HZ2; clear HZ2)); have HS2 := Lib.hid (HS.out.down hBB); clear HS; have HS := HS2; clear HS2 hBB; (rw [hb]); clear hb; generalize wx.alloc (.cells #[.int .i64 0, .int .i64 0, .int .i64 0, .int .i64 0, .int .i64 0, .int .i64 0, .int .i64 0, .int .i64 0, .int .i64 0, .int .i64 0, .int .i64 0, .int .i64 0, .int .i64 0, .int .i64 0, .int .i64 0, .int .i64 0, .int .i64 0, .int .i64 0, .int .i64 0, .int .i64 0, .int .i64 0, .int .i64 0, .int .i64 0, .int .i64 0] 27) = wn at *
        refine hK.out _ _ ?_ (fun hHeld => ?_)
        · exact ⟨HS.out.s, HS.out.p⟩
        clear hK K
        (try simp only [Act.put, List.setIfInBounds_toArray, List.set_cons_zero, List.set_cons_succ])
        exact SH20.out _ _ _ _ _ HS HL HA HR HZ
    case sp13 =>
      intro wx b14 b15 b16 HS HA HR HZ
      refine wpAnyM_oneS 4 rfl (by kernel_rfl) (fun K hK => ?_)
      go_simp; obtain ⟨b4, hb⟩ : ∃ x, wx.heap.size = x := ⟨_, rfl⟩; have HL := Lib.hid (mv_slc HS.out (k : Int) b4 hb); have hBB := (Below.refl wx.heap.size wx).alloc (Nat.le_refl _) (.cells #[.int .i64 (k : Int)] 3); (try (have HA2 := Lib.hid (And.intro (HA.out.1.below hBB) HA.out.2); clear HA; have HA := HA2; clear HA2)); (try (have HR2 := Lib.hid (And.intro (HR.out.1.below hBB) HR.out.2); clear HR; have HR := HR2; clear HR2)); (try (have HZ2 := Lib.hid (And.intro (HZ.out.1.below hBB) HZ.out.2); clear HZ; have HZ := HZ2; clear HZ2)); have HS2 := Lib.hid (HS.out.down hBB); clear HS; have HS := HS2; clear HS2 hBB; (rw [hb]); clear hb; generalize wx.alloc (.cells #[.int .i64 (k : Int)] 3) = wn at *
      refine hK.out _ _ ?_ (fun hHeld => ?_)
      · exact ⟨HS.out.s, HS.out.p⟩
      clear hK K
      (try simp only [Act.put, List.setIfInBounds_toArray, List.set_cons_zero, List.set_cons_succ])
      exact SH20.out _ _ _ _ _ HS HL HA HR HZ
    case sp14 =>
      intro wx b4 b14 HS HA
      refine wpAnyM_twoS 15 16 rfl rfl (by kernel_rfl) (fun K hK => ?_) (fun K hK => ?_)
      · go_simp; obtain ⟨b15, hb⟩ : ∃ x, wx.heap.size = x := ⟨_, rfl⟩; have HR := Lib.hid (mv_cov HS.out b15 hb); have hBB := (Below.refl wx.heap.size wx).alloc (Nat.le_refl _) (.cells Try.zeroCells30 30); (try (have HL2 := Lib.hid (HL.out.below hBB); clear HL; have HL := HL2; clear HL2)); (try (have HA2 := Lib.hid (And.intro (HA.out.1.below hBB) HA.out.2); clear HA; have HA := HA2; clear HA2)); (try (have HZ2 := Lib.hid (And.intro (HZ.out.1.below hBB) HZ.out.2); clear HZ; have HZ := HZ2; clear HZ2)); have HS2 := Lib.hid (HS.out.down hBB); clear HS; have HS := HS2; clear HS2 hBB; (rw [hb]); clear hb; generalize wx.alloc (.cells Try.zeroCells30 30) = wn at *
        refine hK.out _ _ ?_ (fun hHeld => ?_)
        · exact ⟨HS.out.s, HS.out.p⟩
        clear hK K
        (try simp only [Act.put, List.setIfInBounds_toArray, List.set_cons_zero, List.set_cons_succ])
        clear hHeld
        revert HR
        revert HA
        revert HS
        revert b15
        revert b14
        revert b4
        revert wn
        exact SH21.out
      · go_simp; obtain ⟨b16, hb⟩ : ∃ x, wx.heap.size = x := ⟨_, rfl⟩; have HZ := Lib.hid (mv_res HS.out b16 hb); have hBB := (Below.refl wx.heap.size wx).alloc (Nat.le_refl _) (.cells #[.bool false, .int .i64 0, .int .i64 0] 43); (try (have HL2 := Lib.hid (HL.out.below hBB); clear HL; have HL := HL2; clear HL2)); (try (have HA2 := Lib.hid (And.intro (HA.out.1.below hBB) HA.out.2); clear HA; have HA := HA2; clear HA2)); (try (have HR2 := Lib.hid (And.intro (HR.out.1.below hBB) HR.out.2); clear HR; have HR := HR2; clear HR2)); have HS2 := Lib.hid (HS.out.down hBB); clear HS; have HS := HS2; clear HS2 hBB; (rw [hb]); clear hb; generalize wx.alloc (.cells #[.bool false, .int .i64 0, .int .i64 0] 43) = wn at *
        refine hK.out _ _ ?_ (fun hHeld => ?_)
        · exact ⟨HS.out.s, HS.out.p⟩
        clear hK K
        (try simp only [Act.put, List.setIfInBounds_toArray, List.set_cons_zero, List.set_cons_succ])
        clear hHeld
        revert HZ
        revert HA
        revert HS
        revert b16
        revert b14
        revert b4
        revert wn
        exact SH22.out
    case sp15 =>
      intro wx b4 b15 HS HR
      refine wpAnyM_twoS 14 16 rfl rfl (by kernel_rfl) (fun K hK => ?_) (fun K hK => ?_)
      · go_simp; obtain ⟨b14, hb⟩ : ∃ x, wx.heap.size = x := ⟨_, rfl⟩; have HA := Lib.hid (mv_st HS.out b14 hb); have hBB := (Below.refl wx.heap.size wx).alloc (Nat.le_refl _) (.cells #[.int .i64 0, .int .i64 0, .int .i64 0, .int .i64 0, .int .i64 0, .int .i64 0, .int .i64 0, .int .i64 0, .int .i64 0, .int .i64 0, .int .i64 0, .int .i64 0, .int .i64 0, .int .i64 0, .int .i64 0, .int .i64 0, .int .i64 0, .int .i64 0, .int .i64 0, .int .i64 0, .int .i64 0, .int .i64 0, .int .i64 0, .int .i64 0] 27); (try (have HL2 := Lib.hid (HL.out.below hBB); clear HL; have HL := HL2; clear HL2)); (try (have HR2 := Lib.hid (And.intro (HR.out.1.below hBB) HR.out.2); clear HR; have HR := HR2; clear HR2)); (try (have HZ2 := Lib.hid (And.intro (HZ.out.1.below hBB) HZ.out.2); clear HZ; have HZ := HZ2; clear HZ2)); have HS2 := Lib.hid (HS.out.down hBB); clear HS; have HS := HS2; clear HS2 hBB; (rw [hb]); clear hb; generalize wx.alloc (.cells #[.int .i64 0, .int .i64 0, .int .i64 0, .int .i64 0, .int .i64 0, .int .i64 0, .int .i64 0, .int .i64 0, .int .i64 0, .int .i64 0, .int .i64 0, .int .i64 0, .int .i64 0, .int .i64 0, .int .i64 0, .int .i64 0, .int .i64 0, .int .i64 0, .int .i64 0, .int .i64 0, .int .i64 0, .int .i64 0, .int .i64 0, .int .i64 0] 27) = wn at *
        refine hK.out _ _ ?_ (fun hHeld => ?_)
        · exact ⟨HS.out.s, HS.out.p⟩
        clear hK K
        (try simp only [Act.put, List.setIfInBounds_toArray, List.set_cons_zero, List.set_cons_succ])
        exact SH21.out _ _ _ _ HS HA HR
      · go_simp; obtain ⟨b16, hb⟩ : ∃ x, wx.heap.size = x := ⟨_, rfl⟩; have HZ := Lib.hid (mv_res HS.out b16 hb); have hBB := (Below.refl wx.heap.size wx).alloc (Nat.le_refl _) (.cells #[.bool false, .int .i64 0, .int .i64 0] 43); (try (have HL2 := Lib.hid (HL.out.below hBB); clear HL; have HL := HL2; clear HL2)); (try (have HA2 := Lib.hid (And.intro (HA.out.1.below hBB) HA.out.2); clear HA; have HA := HA2; clear HA2)); (try (have HR2 := Lib.hid (And.intro (HR.out.1.below hBB) HR.out.2); clear HR; have HR := HR2; clear HR2)); have HS2 := Lib.hid (HS.out.down hBB); clear HS; have HS := HS2; clear HS2 hBB; (rw [hb]); clear hb; generalize wx.alloc (.cells #[.bool false, .int .i64 0, .int .i64 0] 43) = wn at *
        refine hK.out _ _ ?_ (fun hHeld => ?_)
        · exact ⟨HS.out.s, HS.out.p⟩
        clear hK K
        (try simp only [Act.put, List.setIfInBounds_toArray, List.set_cons_zero, List.set_cons_succ])
        clear hHeld
        revert HZ
        revert HR
        revert HS
        revert b16
        revert b15
        revert b4
        revert wn
        exact SH23.out
    case sp16 =>
      intro wx b4 b16 HS HZ
      refine wpAnyM_twoS 14 15 rfl rfl (by kernel_rfl) (fun K hK => ?_) (fun K hK => ?_)
      · go_simp; obtain ⟨b14, hb⟩ : ∃ x, wx.heap.size = x := ⟨_, rfl⟩; have HA := Lib.hid (mv_st HS.out b14 hb); have hBB := (Below.refl wx.heap.size wx).alloc (Nat.le_refl _) (.cells #[.int .i64 0, .int .i64 0, .int .i64 0, .int .i64 0, .int .i64 0, .int .i64 0, .int .i64 0, .int .i64 0, .int .i64 0, .int .i64 0, .int .i64 0, .int .i64 0, .int .i64 0, .int .i64 0, .int .i64 0, .int .i64 0, .int .i64 0, .int .i64 0, .int .i64 0, .int .i64 0, .int .i64 0, .int .i64 0, .int .i64 0, .int .i64 0] 27); (try (have HL2 := Lib.hid (HL.out.below hBB); clear HL; have HL := HL2; clear HL2)); (try (have HR2 := Lib.hid (And.intro (HR.out.1.below hBB) HR.out.2); clear HR; have HR := HR2; clear HR2)); (try (have HZ2 := Lib.hid (And.intro (HZ.out.1.below hBB) HZ.out.2); clear HZ; have HZ := HZ2; clear HZ2)); have HS2 := Lib.hid (HS.out.down hBB); clear HS; have HS := HS2; clear HS2 hBB; (rw [hb]); clear hb; generalize wx.alloc (.cells #[.int .i64 0, .int .i64 0, .int .i64 0, .int .i64 0, .int .i64 0, .int .i64 0, .int .i64 0, .int .i64 0, .int .i64 0, .int .i64 0, .int .i64 0, .int .i64 0, .int .i64 0, .int .i64 0, .int .i64 0, .int .i64 0, .int .i64 0, .int .i64 0, .int .i64 0, .int .i64 0, .int .i64 0, .int .i64 0, .int .i64 0, .int .i64 0] 27) = wn at *
        refine hK.out _ _ ?_ (fun hHeld => ?_)
        · exact ⟨HS.out.s, HS.out.p⟩
        clear hK K
        (try simp only [Act.put, List.setIfInBounds_toArray, List.set_cons_zero, List.set_cons_succ])
        exact SH22.out _ _ _ _ HS HA HZ
      · go_simp; obtain ⟨b15, hb⟩ : ∃ x, wx.heap.size = x := ⟨_, rfl⟩; have HR := Lib.hid (mv_cov HS.out b15 hb); have hBB := (Below.refl wx.heap.size wx).alloc (Nat.le_refl _) (.cells Try.zeroCells30 30); (try (have HL2 := Lib.hid (HL.out.below hBB); clear HL; have HL := HL2; clear HL2)); (try (have HA2 := Lib.hid (And.intro (HA.out.1.below hBB) HA.out.2); clear HA; have HA := HA2; clear HA2)); (try (have HZ2 := Lib.hid (And.intro (HZ.out.1.below hBB) HZ.out.2); clear HZ; have HZ := HZ2; clear HZ2)); have HS2 := Lib.hid (HS.out.down hBB); clear HS; have HS := HS2; clear HS2 hBB; (rw [hb]); clear hb; generalize wx.alloc (.cells Try.zeroCells30 30) = wn at *
        refine hK.out _ _ ?_ (fun hHeld => ?_)
        · exact ⟨HS.out.s, HS.out.p⟩
        clear hK K
        (try simp only [Act.put, List.setIfInBounds_toArray, List.set_cons_zero, List.set_cons_succ])
        exact SH23.out _ _ _ _ HS HR HZ
    case sp17 =>
      intro wx b4 b14 b15 HS HA HR
      refine wpAnyM_twoS 9 16 rfl rfl (by kernel_rfl) (fun K hK => ?_) (fun K hK => ?_)
      · go_simp
        (refine (OM.out _ HS.out.flg.cell HS.out.flg.free).mono ?_); rintro e wn ⟨rfl, hu7⟩; (try (have HA2 := Lib.hid (And.intro (HA.out.1.upd hu7 (by have := HA.out.2; have := HS.out.ord; simp; omega)) HA.out.2); clear HA; have HA := HA2; clear HA2)); (try (have HR2 := Lib.hid (And.intro (HR.out.1.upd hu7 (by have := HR.out.2; have := HS.out.ord; simp; omega)) HR.out.2); clear HR; have HR := HR2; clear HR2)); (try (have HZ2 := Lib.hid (And.intro (HZ.out.1.upd hu7 (by have := HZ.out.2; have := HS.out.ord; simp; omega)) HZ.out.2); clear HZ; have HZ := HZ2; clear HZ2)); have HS2 := Lib.hid (HS.out.upd hu7); clear HS; have HS := HS2; clear HS2 hu7; (simp only [res3])
        (try dsimp only)
        (try simp only [Act.put, List.setIfInBounds_toArray, List.set_cons_zero, List.set_cons_succ])
        refine hK.out _ _ ?_ (fun hHeld => ?_)
        · exact ⟨HS.out.s, HS.out.p⟩
        clear hK K
        (try simp only [Act.put, List.setIfInBounds_toArray, List.set_cons_zero, List.set_cons_succ])
        refine wpAnyM_take 10 (v := ?_) rfl (by kernel_rfl) (fun _ _ _ h => h) (Or.inl ⟨by rfl, ?_⟩) (by assumption) ?_
        rotate_left
        · (intro wz hSw; (try dsimp only at hSw); go_simp; (try with_reducible rfl))
        (try simp only [Act.put, List.setIfInBounds_toArray, List.set_cons_zero, List.set_cons_succ])
        refine wpAnyM_take 11 (v := ?_) rfl (by kernel_rfl) (fun _ _ _ h => h) (Or.inl ⟨by rfl, ?_⟩) (by assumption) ?_
        rotate_left
        · (intro wz hSw; (try dsimp only at hSw); go_simp; (try with_reducible rfl))
        (try simp only [Act.put, List.setIfInBounds_toArray, List.set_cons_zero, List.set_cons_succ])
        refine wpAnyM_take 12 (v := ?_) rfl (by kernel_rfl) (fun _ _ _ h => h) (Or.inl ⟨by rfl, ?_⟩) (by assumption) ?_
        rotate_left
        · (intro wz hSw; (try dsimp only at hSw); go_simp; (try with_reducible rfl))
        (try simp only [Act.put, List.setIfInBounds_toArray, List.set_cons_zero, List.set_cons_succ])
        refine wpAnyM_take 13 (v := ?_) rfl (by kernel_rfl) (fun _ _ _ h => h) (Or.inl ⟨by rfl, ?_⟩) (by assumption) ?_
        rotate_left
        · (intro wz hSw; (try dsimp only at hSw); go_simp; (try with_reducible rfl))
        (try simp only [Act.put, List.setIfInBounds_toArray, List.set_cons_zero, List.set_cons_succ])
        exact SH21.out _ _ _ _ HS HA HR
      · go_simp; obtain ⟨b16, hb⟩ : ∃ x, wx.heap.size = x := ⟨_, rfl⟩; have HZ := Lib.hid (mv_res HS.out b16 hb); have hBB := (Below.refl wx.heap.size wx).alloc (Nat.le_refl _) (.cells #[.bool false, .int .i64 0, .int .i64 0] 43); (try (have HL2 := Lib.hid (HL.out.below hBB); clear HL; have HL := HL2; clear HL2)); (try (have HA2 := Lib.hid (And.intro (HA.out.1.below hBB) HA.out.2); clear HA; have HA := HA2; clear HA2)); (try (have HR2 := Lib.hid (And.intro (HR.out.1.below hBB) HR.out.2); clear HR; have HR := HR2; clear HR2)); have HS2 := Lib.hid (HS.out.down hBB); clear HS; have HS := HS2; clear HS2 hBB; (rw [hb]); clear hb; generalize wx.alloc (.cells #[.bool false, .int .i64 0, .int .i64 0] 43) = wn at *
        refine hK.out _ _ ?_ (fun hHeld => ?_)
        · exact ⟨HS.out.s, HS.out.p⟩
        clear hK K
        (try simp only [Act.put, List.setIfInBounds_toArray, List.set_cons_zero, List.set_cons_succ])
        clear hHeld
        revert HZ
        revert HR
        revert HA
        revert HS
        revert b16
        revert b15
        revert b14
        revert b4
        revert wn
        exact SH24.out
    case sp18 =>
      intro wx b4 b14 b16 HS HA HZ
      refine wpAnyM_twoS 9 15 rfl rfl (by kernel_rfl) (fun K hK => ?_) (fun K hK => ?_)
      · go_simp
        (refine (OM.out _ HS.out.flg.cell HS.out.flg.free).mono ?_); rintro e wn ⟨rfl, hu7⟩; (try (have HA2 := Lib.hid (And.intro (HA.out.1.upd hu7 (by have := HA.out.2; have := HS.out.ord; simp; omega)) HA.out.2); clear HA; have HA := HA2; clear HA2)); (try (have HR2 := Lib.hid (And.intro (HR.out.1.upd hu7 (by have := HR.out.2; have := HS.out.ord; simp; omega)) HR.out.2); clear HR; have HR := HR2; clear HR2)); (try (have HZ2 := Lib.hid (And.intro (HZ.out.1.upd hu7 (by have := HZ.out.2; have := HS.out.ord; simp; omega)) HZ.out.2); clear HZ; have HZ := HZ2; clear HZ2)); have HS2 := Lib.hid (HS.out.upd hu7); clear HS; have HS := HS2; clear HS2 hu7; (simp only [res3])
        (try dsimp only)
        (try simp only [Act.put, List.setIfInBounds_toArray, List.set_cons_zero, List.set_cons_succ])
        refine hK.out _ _ ?_ (fun hHeld => ?_)
        · exact ⟨HS.out.s, HS.out.p⟩
        clear hK K
        (try simp only [Act.put, List.setIfInBounds_toArray, List.set_cons_zero, List.set_cons_succ])
        refine wpAnyM_take 10 (v := ?_) rfl (by kernel_rfl) (fun _ _ _ h => h) (Or.inl ⟨by rfl, ?_⟩) (by assumption) ?_
        rotate_left
        · (intro wz hSw; (try dsimp only at hSw); go_simp; (try with_reducible rfl))
        (try simp only [Act.put, List.setIfInBounds_toArray, List.set_cons_zero, List.set_cons_succ])
        refine wpAnyM_take 11 (v := ?_) rfl (by kernel_rfl) (fun _ _ _ h => h) (Or.inl ⟨by rfl, ?_⟩) (by assumption) ?_
        rotate_left
        · (intro wz hSw; (try dsimp only at hSw); go_simp; (try with_reducible rfl))
        (try simp only [Act.put, List.setIfInBounds_toArray, List.set_cons_zero, List.set_cons_succ])
        refine wpAnyM_take 12 (v := ?_) rfl (by kernel_rfl) (fun _ _ _ h => h) (Or.inl ⟨by rfl, ?_⟩) (by assumption) ?_
        rotate_left
        · (intro wz hSw; (try dsimp only at hSw); go_simp; (try with_reducible rfl))
        (try simp only [Act.put, List.setIfInBounds_toArray, List.set_cons_zero, List.set_cons_succ])
        refine wpAnyM_take 13 (v := ?_) rfl (by kernel_rfl) (fun _ _ _ h => h) (Or.inl ⟨by rfl, ?_⟩) (by assumption) ?_
        rotate_left
        · (intro wz hSw; (try dsimp only at hSw); go_simp; (try with_reducible rfl))
        (try simp only [Act.put, List.setIfInBounds_toArray, List.set_cons_zero, List.set_cons_succ])
        exact SH22.out _ _ _ _ HS HA HZ
      · go_simp; obtain ⟨b15, hb⟩ : ∃ x, wx.heap.size = x := ⟨_, rfl⟩; have HR := Lib.hid (mv_cov HS.out b15 hb); have hBB := (Below.refl wx.heap.size wx).alloc (Nat.le_refl _) (.cells Try.zeroCells30 30); (try (have HL2 := Lib.hid (HL.out.below hBB); clear HL; have HL := HL2; clear HL2)); (try (have HA2 := Lib.hid (And.intro (HA.out.1.below hBB) HA.out.2); clear HA; have HA := HA2; clear HA2)); (try (have HZ2 := Lib.hid (And.intro (HZ.out.1.below hBB) HZ.out.2); clear HZ; have HZ := HZ2; clear HZ2)); have HS2 := Lib.hid (HS.out.down hBB); clear HS; have HS := HS2; clear HS2 hBB; (rw [hb]); clear hb; generalize wx.alloc (.cells Try.zeroCells30 30) = wn at *
        refine hK.out _ _ ?_ (fun hHeld => ?_)
        · exact ⟨HS.out.s, HS.out.p⟩
        clear hK K
        (try simp only [Act.put, List.setIfInBounds_toArray, List.set_cons_zero, List.set_cons_succ])
        exact SH24.out _ _ _ _ _ HS HA HR HZ
    case sp19 =>
      intro wx b4 b15 b16 HS HR HZ
      refine wpAnyM_twoS 9 14 rfl rfl (by kernel_rfl) (fun K hK => ?_) (fun K hK => ?_)
      · go_simp
        (refine (OM.out _ HS.out.flg.cell HS.out.flg.free).mono ?_); rintro e wn ⟨rfl, hu7⟩; (try (have HA2 := Lib.hid (And.intro (HA.out.1.upd hu7 (by have := HA.out.2; have := HS.out.ord; simp; omega)) HA.out.2); clear HA; have HA := HA2; clear HA2)); (try (have HR2 := Lib.hid (And.intro (HR.out.1.upd hu7 (by have := HR.out.2; have := HS.out.ord; simp; omega)) HR.out.2); clear HR; have HR := HR2; clear HR2)); (try (have HZ2 := Lib.hid (And.intro (HZ.out.1.upd hu7 (by have := HZ.out.2; have := HS.out.ord; simp; omega)) HZ.out.2); clear HZ; have HZ := HZ2; clear HZ2)); have HS2 := Lib.hid (HS.out.upd hu7); clear HS; have HS := HS2; clear HS2 hu7; (simp only [res3])
        (try dsimp only)
        (try simp only [Act.put, List.setIfInBounds_toArray, List.set_cons_zero, List.set_cons_succ])
        refine hK.out _ _ ?_ (fun hHeld => ?_)
        · exact ⟨HS.out.s, HS.out.p⟩
        clear hK K
        (try simp only [Act.put, List.setIfInBounds_toArray, List.set_cons_zero, List.set_cons_succ])
        refine wpAnyM_take 10 (v := ?_) rfl (by kernel_rfl) (fun _ _ _ h => h) (Or.inl ⟨by rfl, ?_⟩) (by assumption) ?_
        rotate_left
        · (intro wz hSw; (try dsimp only at hSw); go_simp; (try with_reducible rfl))
        (try simp only [Act.put, List.setIfInBounds_toArray, List.set_cons_zero, List.set_cons_succ])
        refine wpAnyM_take 11 (v := ?_) rfl (by kernel_rfl) (fun _ _ _ h => h) (Or.inl ⟨by rfl, ?_⟩) (by assumption) ?_
        rotate_left
        · (intro wz hSw; (try dsimp only at hSw); go_simp; (try with_reducible rfl))
        (try simp only [Act.put, List.setIfInBounds_toArray, List.set_cons_zero, List.set_cons_succ])
        refine wpAnyM_take 12 (v := ?_) rfl (by kernel_rfl) (fun _ _ _ h => h) (Or.inl ⟨by rfl, ?_⟩) (by assumption) ?_
        rotate_left
        · (intro wz hSw; (try dsimp only at hSw); go_simp; (try with_reducible rfl))
        (try simp only [Act.put, List.setIfInBounds_toArray, List.set_cons_zero, List.set_cons_succ])
        refine wpAnyM_take 13 (v := ?_) rfl (by kernel_rfl) (fun _ _ _ h => h) (Or.inl ⟨by rfl, ?_⟩) (by assumption) ?_
        rotate_left
        · (intro wz hSw; (try dsimp only at hSw); go_simp; (try with_reducible rfl))
        (try simp only [Act.put, List.setIfInBounds_toArray, List.set_cons_zero, List.set_cons_succ])
        exact SH23.out _ _ _ _ HS HR HZ
      · go_simp; obtain ⟨b14, hb⟩ : ∃ x, wx.heap.size = x := ⟨_, rfl⟩; have HA := Lib.hid (mv_st HS.out b14 hb); have hBB := (Below.refl wx.heap.size wx).alloc (Nat.le_refl _) (.cells #[.int .i64 0, .int .i64 0, .int .i64 0, .int .i64 0, .int .i64 0, .int .i64 0, .int .i64 0, .int .i64 0, .int .i64 0, .int .i64 0, .int .i64 0, .int .i64 0, .int .i64 0, .int .i64 0, .int .i64 0, .int .i64 0, .int .i64 0, .int .i64 0, .int .i64 0, .int .i64 0, .int .i64 0, .int .i64 0, .int .i64 0, .int .i64 0] 27); (try (have HL2 := Lib.hid (HL.out.below hBB); clear HL; have HL := HL2; clear HL2)); (try (have HR2 := Lib.hid (And.intro (HR.out.1.below hBB) HR.out.2); clear HR; have HR := HR2; clear HR2)); (try (have HZ2 := Lib.hid (And.intro (HZ.out.1.below hBB) HZ.out.2); clear HZ; have HZ := HZ2; clear HZ2)); have HS2 := Lib.hid (HS.out.down hBB); clear HS; have HS := HS2; clear HS2 hBB; (rw [hb]); clear hb; generalize wx.alloc (.cells #[.int .i64 0, .int .i64 0, .int .i64 0, .int .i64 0, .int .i64 0, .int .i64 0, .int .i64 0, .int .i64 0, .int .i64 0, .int .i64 0, .int .i64 0, .int .i64 0, .int .i64 0, .int .i64 0, .int .i64 0, .int .i64 0, .int .i64 0, .int .i64 0, .int .i64 0, .int .i64 0, .int .i64 0, .int .i64 0, .int .i64 0, .int .i64 0] 27) = wn at *
        refine hK.out _ _ ?_ (fun hHeld => ?_)
        · exact ⟨HS.out.s, HS.out.p⟩
        clear hK K
        (try simp only [Act.put, List.setIfInBounds_toArray, List.set_cons_zero, List.set_cons_succ])
        exact SH24.out _ _ _ _ _ HS HA HR HZ
    case sp20 =>
      intro wx b4 b14 b15 b16 HS HL HA HR HZ
      refine wpAnyM_oneS 5 rfl (by kernel_rfl) (fun K hK => ?_)
      go_simp
      (refine (pick_any _ 1 _ (fun _ => (k : Int)) _ HL.out (by omega)).mono ?_); rintro e wn ⟨rfl, hb6⟩; (rw [EN.out]); have HS2 := Lib.hid (HS.out.down hb6); clear HS; have HS := HS2; clear HS2 HL; (try (have HA2 := Lib.hid (And.intro (HA.out.1.below hb6) HA.out.2); clear HA; have HA := HA2; clear HA2)); (try (have HR2 := Lib.hid (And.intro (HR.out.1.below hb6) HR.out.2); clear HR; have HR := HR2; clear HR2)); (try (have HZ2 := Lib.hid (And.intro (HZ.out.1.below hb6) HZ.out.2); clear HZ; have HZ := HZ2; clear HZ2)); clear hb6
      (try dsimp only)
      (try simp only [Act.put, List.setIfInBounds_toArray, List.set_cons_zero, List.set_cons_succ])
      refine hK.out _ _ ?_ (fun hHeld => ?_)
      · exact ⟨HS.out.s, HS.out.p⟩
      clear hK K
      (try simp only [Act.put, List.setIfInBounds_toArray, List.set_cons_zero, List.set_cons_succ])
      refine wpAnyM_take 8 (v := ?_) rfl (by kernel_rfl) (fun _ _ _ h => h) (Or.inl ⟨by rfl, ?_⟩) (by assumption) ?_
      rotate_left
      · (intro wz hSw; refine Eq.trans (run_build_obs4 (.tmp 64) (.tmp 65) (.tmp 66) (.const (.int .i64 1000)) (by rfl) (by rfl) (by rfl) (by rfl) (by rfl)) ?_; rw [OB.out])
      (try simp only [Act.put, List.setIfInBounds_toArray, List.set_cons_zero, List.set_cons_succ])
      exact SH24.out _ _ _ _ _ HS HA HR HZ
    case sp21 =>
      intro wx b4 b14 b15 HS HA HR
      refine wpAnyM_oneS 16 rfl (by kernel_rfl) (fun K hK => ?_)
      go_simp; obtain ⟨b16, hb⟩ : ∃ x, wx.heap.size = x := ⟨_, rfl⟩; have HZ := Lib.hid (mv_res HS.out b16 hb); have hBB := (Below.refl wx.heap.size wx).alloc (Nat.le_refl _) (.cells #[.bool false, .int .i64 0, .int .i64 0] 43); (try (have HL2 := Lib.hid (HL.out.below hBB); clear HL; have HL := HL2; clear HL2)); (try (have HA2 := Lib.hid (And.intro (HA.out.1.below hBB) HA.out.2); clear HA; have HA := HA2; clear HA2)); (try (have HR2 := Lib.hid (And.intro (HR.out.1.below hBB) HR.out.2); clear HR; have HR := HR2; clear HR2)); have HS2 := Lib.hid (HS.out.down hBB); clear HS; have HS := HS2; clear HS2 hBB; (rw [hb]); clear hb; generalize wx.alloc (.cells #[.bool false, .int .i64 0, .int .i64 0] 43) = wn at *
      refine hK.out _ _ ?_ (fun hHeld => ?_)
      · exact ⟨HS.out.s, HS.out.p⟩
      clear hK K
      (try simp only [Act.put, List.setIfInBounds_toArray, List.set_cons_zero, List.set_cons_succ])
      clear hHeld
      revert HZ
      revert HR
      revert HA
      revert HS
      revert b16
      revert b15
      revert b14
      revert b4
      revert wn
      exact SH25.out
    case sp22 =>
      intro wx b4 b14 b16 HS HA HZ
      refine wpAnyM_oneS 15 rfl (by kernel_rfl) (fun K hK => ?_)
      go_simp; obtain ⟨b15, hb⟩ : ∃ x, wx.heap.size = x := ⟨_, rfl⟩; have HR := Lib.hid (mv_cov HS.out b15 hb); have hBB := (Below.refl wx.heap.size wx).alloc (Nat.le_refl _) (.cells Try.zeroCells30 30); (try (have HL2 := Lib.hid (HL.out.below hBB); clear HL; have HL := HL2; clear HL2)); (try (have HA2 := Lib.hid (And.intro (HA.out.1.below hBB) HA.out.2); clear HA; have HA := HA2; clear HA2)); (try (have HZ2 := Lib.hid (And.intro (HZ.out.1.below hBB) HZ.out.2); clear HZ; have HZ := HZ2; clear HZ2)); have HS2 := Lib.hid (HS.out.down hBB); clear HS; have HS := HS2; clear HS2 hBB; (rw [hb]); clear hb; generalize wx.alloc (.cells Try.zeroCells30 30) = wn at *
      refine hK.out _ _ ?_ (fun hHeld => ?_)
      · exact ⟨HS.out.s, HS.out.p⟩
      clear hK K
      (try simp only [Act.put, List.setIfInBounds_toArray, List.set_cons_zero, List.set_cons_succ])
      exact SH25.out _ _ _ _ _ HS HA HR HZ
    case sp23 =>
      intro wx b4 b15 b16 HS HR HZ
      refine wpAnyM_oneS 14 rfl (by kernel_rfl) (fun K hK => ?_)
      go_simp; obtain ⟨b14, hb⟩ : ∃ x, wx.heap.size = x := ⟨_, rfl⟩; have HA := Lib.hid (mv_st HS.out b14 hb); have hBB := (Below.refl wx.heap.size wx).alloc (Nat.le_refl _) (.cells #[.int .i64 0, .int .i64 0, .int .i64 0, .int .i64 0, .int .i64 0, .int .i64 0, .int .i64 0, .int .i64 0, .int .i64 0, .int .i64 0, .int .i64 0, .int .i64 0, .int .i64 0, .int .i64 0, .int .i64 0, .int .i64 0, .int .i64 0, .int .i64 0, .int .i64 0, .int .i64 0, .int .i64 0, .int .i64 0, .int .i64 0, .int .i64 0] 27); (try (have HL2 := Lib.hid (HL.out.below hBB); clear HL; have HL := HL2; clear HL2)); (try (have HR2 := Lib.hid (And.intro (HR.out.1.below hBB) HR.out.2); clear HR; have HR := HR2; clear HR2)); (try (have HZ2 := Lib.hid (And.intro (HZ.out.1.below hBB) HZ.out.2); clear HZ; have HZ := HZ2; clear HZ2)); have HS2 := Lib.hid (HS.out.down hBB); clear HS; have HS := HS2; clear HS2 hBB; (rw [hb]); clear hb; generalize wx.alloc (.cells #[.int .i64 0, .int .i64 0, .int .i64 0, .int .i64 0, .int .i64 0, .int .i64 0, .int .i64 0, .int .i64 0, .int .i64 0, .int .i64 0, .int .i64 0, .int .i64 0, .int .i64 0, .int .i64 0, .int .i64 0, .int .i64 0, .int .i64 0, .int .i64 0, .int .i64 0, .int .i64 0, .int .i64 0, .int .i64 0, .int .i64 0, .int .i64 0] 27) = wn at *
      refine hK.out _ _ ?_ (fun hHeld => ?_)
      · exact ⟨HS.out.s, HS.out.p⟩
      clear hK K
      (try simp only [Act.put, List.setIfInBounds_toArray, List.set_cons_zero, List.set_cons_succ])
      exact SH25.out _ _ _ _ _ HS HA HR HZ
    case sp24 =>
      intro wx b4 b14 b15 b16 HS HA HR HZ
      refine wpAnyM_oneS 9 rfl (by kernel_rfl) (fun K hK => ?_)
      go_simp
      (refine (OM.out _ HS.out.flg.cell HS.out.flg.free).mono ?_); rintro e wn ⟨rfl, hu7⟩; (try (have HA2 := Lib.hid (And.intro (HA.out.1.upd hu7 (by have := HA.out.2; have := HS.out.ord; simp; omega)) HA.out.2); clear HA; have HA := HA2; clear HA2)); (try (have HR2 := Lib.hid (And.intro (HR.out.1.upd hu7 (by have := HR.out.2; have := HS.out.ord; simp; omega)) HR.out.2); clear HR; have HR := HR2; clear HR2)); (try (have HZ2 := Lib.hid (And.intro (HZ.out.1.upd hu7 (by have := HZ.out.2; have := HS.out.ord; simp; omega)) HZ.out.2); clear HZ; have HZ := HZ2; clear HZ2)); have HS2 := Lib.hid (HS.out.upd hu7); clear HS; have HS := HS2; clear HS2 hu7; (simp only [res3])
      (try dsimp only)
      (try simp only [Act.put, List.setIfInBounds_toArray, List.set_cons_zero, List.set_cons_succ])
      refine hK.out _ _ ?_ (fun hHeld => ?_)
      · exact ⟨HS.out.s, HS.out.p⟩
      clear hK K
      (try simp only [Act.put, List.setIfInBounds_toArray, List.set_cons_zero, List.set_cons_succ])
      refine wpAnyM_take 10 (v := ?_) rfl (by kernel_rfl) (fun _ _ _ h => h) (Or.inl ⟨by rfl, ?_⟩) (by assumption) ?_
      rotate_left
      · (intro wz hSw; (try dsimp only at hSw); go_simp; (try with_reducible rfl))
      (try simp only [Act.put, List.setIfInBounds_toArray, List.set_cons_zero, List.set_cons_succ])
      refine wpAnyM_take 11 (v := ?_) rfl (by kernel_rfl) (fun _ _ _ h => h) (Or.inl ⟨by rfl, ?_⟩) (by assumption) ?_
      rotate_left
      · (intro wz hSw; (try dsimp only at hSw); go_simp; (try with_reducible rfl))
      (try simp only [Act.put, List.setIfInBounds_toArray, List.set_cons_zero, List.set_cons_succ])
      refine wpAnyM_take 12 (v := ?_) rfl (by kernel_rfl) (fun _ _ _ h => h) (Or.inl ⟨by rfl, ?_⟩) (by assumption) ?_
      rotate_left
      · (intro wz hSw; (try dsimp only at hSw); go_simp; (try with_reducible rfl))
      (try simp only [Act.put, List.setIfInBounds_toArray, List.set_cons_zero, List.set_cons_succ])
      refine wpAnyM_take 13 (v := ?_) rfl (by kernel_rfl) (fun _ _ _ h => h) (Or.inl ⟨by rfl, ?_⟩) (by assumption) ?_
      rotate_left
      · (intro wz hSw; (try dsimp only at hSw); go_simp; (try with_reducible rfl))
      (try simp only [Act.put, List.setIfInBounds_toArray, List.set_cons_zero, List.set_cons_succ])
      exact SH25.out _ _ _ _ _ HS HA HR HZ
    case sp25 =>
      intro wx b4 b14 b15 b16 HS HA HR HZ
      have hHeld : (((fun w' => Blk w' sb 27 24 awS ∧ Blk w' pb 30 300 P)) wx) := by exact ⟨HS.out.s, HS.out.p⟩
      have N1 := Lib.hid (blk_ne2 HR.out.1 HA.out.1 (by decide)); have N2 := Lib.hid (res_ne HA.out.1 HZ.out.1 (by decide)); have N3 := Lib.hid (res_ne HR.out.1 HZ.out.1 (by decide)); have HE := Lib.hid (HR.out.1.setRow_other (arrv 24 A) N1.out); have HZ2 := Lib.hid (HZ.out.1.row (arrv 24 A) (fun e => N2.out e.symm)); have HS2 := Lib.hid (HS.out.row HA.out.2 (arrv 24 A)); clear HS; have HS := HS2; clear HS2; have HB := Lib.hid (HA.out.1.setRow A)
      clear hHeld
      refine wpAnyM_doneS 17 rfl (by kernel_rfl) (by rfl) (run_store_row 27 (.tmp 12) (.tmp 69) rfl _ rfl rfl HA.out.1 ist) ?_ (fun hHeld => ?_)
      · exact ⟨HS.out.s, HS.out.p⟩
      (try simp only [Act.put])
      have HC := Lib.hid (HE.out.setRow Q); have HZ3 := HZ2.out.row (arrv 300 Q) (fun e => N3.out e.symm); have HB2 := Lib.hid (HB.out.setRow_other (arrv 300 Q) (fun e => N1.out e.symm)); have HS2 := Lib.hid (HS.out.row HR.out.2 (arrv 300 Q)); clear HS; have HS := HS2; clear HS2; obtain ⟨⟨v0, v1, v2⟩, y0, y1, y2⟩ := HZ3.c
      clear hHeld
      refine wpAnyM_doneS 18 rfl (by kernel_rfl) (by rfl) (run_store_row 30 (.tmp 13) (.tmp 70) rfl _ rfl rfl HE.out icov) ?_ (fun hHeld => ?_)
      · exact ⟨HS.out.s, HS.out.p⟩
      (try simp only [Act.put])
      refine wpAnyM_one 19 rfl (by kernel_rfl) (fun K hK => ?_)
      go_simp
      refine hK.out _ _ (.inl (by kernel_rfl)) (fun _ => ?_)
      clear hK K
      (try simp only [Act.put, List.setIfInBounds_toArray, List.set_cons_zero, List.set_cons_succ])
      refine wpAnyM_done (by kernel_rfl) ?_ _
      (go_wp2_with fail; go_meet; exact ⟨_, _, _, rfl, rfl, rfl, Lib.hid ⟨((HS.out.cell (x := ⟨b16, 0, none⟩) HZ.out.2 _).cell (x := ⟨b16, 1, none⟩) HZ.out.2 _).cell (x := ⟨b16, 2, none⟩) HZ.out.2 _, ((HB2.out.other N2.out _).other N2.out _).other N2.out _, ((HC.out.other N3.out _).other N3.out _).other N3.out _, HZ3.set3 T Y X⟩⟩)
  case rest =>
    obtain ⟨ta, tq, tr, rfl, rfl, rfl, HB⟩ := hcut
    clear HS OM OB EN
    obtain ⟨⟨c0, c1, c2⟩, _⟩ := HB.out.2.2.2.c
    cases T with
    | false =>
      obtain ⟨m1, m2⟩ := LL.out.1 rfl
      have E1 := Lib.hid m1
      have E2 := Lib.hid m2
      clear m1 m2 LL LB PD
      have GA := HB.out.2.1
      have GS := HB.out.1.s
      have GQ := HB.out.2.2.1
      have GP := HB.out.1.p
      go_upto_region 11 with fail
      refine wp_region_lit ?_
      refine wpList_val (v := ?_) rfl ?_ ?_
      rotate_left
      · refine Eq.trans (run_load_row 27 (.tmp 12) (by rfl) (ta) (by rfl) _ _ _ _ (GA) Try.underlying27 rfl (ist.trans (by rw [arrv_size]))) ?_; with_reducible rfl
      (try simp only [Act.put, List.setIfInBounds_toArray, List.set_cons_zero, List.set_cons_succ])
      refine wpList_val (v := ?_) rfl ?_ ?_
      rotate_left
      · refine Eq.trans (run_load_row 27 (.tmp 11) (by rfl) (sb) (by rfl) _ _ _ _ (GS) Try.underlying27 rfl (ist.trans (by rw [arrv_size]))) ?_; with_reducible rfl
      (try simp only [Act.put, List.setIfInBounds_toArray, List.set_cons_zero, List.set_cons_succ])
      refine wpList_val (v := ?_) rfl ?_ ?_
      rotate_left
      · refine Eq.trans (run_op_eqlVec Try.underlying27 (by kernel_rfl) (.tmp 75) (.tmp 76) (by rfl) (by rfl) (by rfl) E1.out) ?_; with_reducible rfl
      (try simp only [Act.put, List.setIfInBounds_toArray, List.set_cons_zero, List.set_cons_succ])
      refine wpList_val (v := ?_) rfl ?_ ?_
      rotate_left
      · (go_simp; (try (first | with_reducible rfl | (constructor <;> with_reducible rfl))))
      (try simp only [Act.put, List.setIfInBounds_toArray, List.set_cons_zero, List.set_cons_succ])
      first | (refine wpList_val (v := ?_) (by rfl) ?_ ?_; rotate_left; focus (refine Eq.trans (run_load_row 30 (.tmp 13) (by rfl) (tq) (by rfl) _ _ _ _ (GQ) Try.underlying30 rfl (icov.trans (by rw [arrv_size]))) ?_; with_reducible rfl)) | refine wpList_skip (by rfl) ?_
      (try simp only [Act.put, List.setIfInBounds_toArray, List.set_cons_zero, List.set_cons_succ])
      first | (refine wpList_val (v := ?_) (by rfl) ?_ ?_; rotate_left; focus (refine Eq.trans (run_load_row 30 (.tmp 10) (by rfl) (pb) (by rfl) _ _ _ _ (GP) Try.underlying30 rfl (icov.trans (by rw [arrv_size]))) ?_; with_reducible rfl)) | refine wpList_skip (by rfl) ?_
      (try simp only [Act.put, List.setIfInBounds_toArray, List.set_cons_zero, List.set_cons_succ])
      first | (refine wpList_val (v := ?_) (by rfl) ?_ ?_; rotate_left; focus (refine Eq.trans (run_op_eqlCov (.tmp 79) (.tmp 80) (by rfl) (by rfl) (by rfl) E2.out) ?_; with_reducible rfl)) | refine wpList_skip (by rfl) ?_
      (try simp only [Act.put, List.setIfInBounds_toArray, List.set_cons_zero, List.set_cons_succ])
      refine wpList_val (v := ?_) rfl ?_ ?_
      rotate_left
      · (go_simp; (try (first | with_reducible rfl | (constructor <;> with_reducible rfl))))
      (try simp only [Act.put, List.setIfInBounds_toArray, List.set_cons_zero, List.set_cons_succ])
      refine wpList_val (v := ?_) rfl ?_ ?_
      rotate_left
      · (go_simp; (try (first | with_reducible rfl | (constructor <;> with_reducible rfl))))
      (try simp only [Act.put, List.setIfInBounds_toArray, List.set_cons_zero, List.set_cons_succ])
      refine wpList_nil ?_
      go_wp2_with fail
      go_ret
      exact ⟨rfl, HB.out.1.below⟩
    | true =>
      obtain ⟨a1, a2, a3⟩ := LL.out.2.1 rfl
      obtain ⟨l1, l2⟩ := LL.out.2.2
      obtain ⟨b1, b2, _⟩ := LB.out
      subst a3
      have hc : (decide (0 ≤ y) = true ∧ decide (MV < 0) = false ∧ decide (y + 1 < MV) = false ∧ decide (y < 0) = false) ∨ (decide (0 ≤ y) = false ∧ decide (y < 0) = true ∧ decide (0 < MV) = false ∧ decide (MV < y - 1) = false) := by
        by_cases h0 : 0 ≤ y
        · have := b1 h0
          exact .inl ⟨by simp; omega, by simp; omega, by simp; omega, by simp; omega⟩
        · have := b2 (by omega)
          exact .inr ⟨by simp; omega, by simp; omega, by simp; omega, by simp; omega⟩
      have m0 := HB.out.2.1.cell (i := k) (by omega)
      rw [a1 k (by omega), if_pos rfl] at m0
      have A1 := Lib.hid a1
      have A2 := Lib.hid a2
      have L1 := Lib.hid (And.intro l1 l2)
      have HY := Lib.hid (And.intro hy (And.intro hd hr))
      clear a1 a2 l1 l2 b1 b2 LL LB
      rcases hc with ⟨e1, e2, e3, e4⟩ | ⟨e1, e2, e3, e4⟩
      all_goals
        go_upto_region 15 with fail
        clear c0 c1 c2 m0 e1 e2 e3 e4
        go_wp2_with fail
        go_loopw [16] (fun i wr => ∃ j : Nat, j ≤ 24 ∧ i = .int .i64 j ∧ Hid (MvR bc pb sb P false w wr ∧ Blk wr ta 27 24 A ∧ Blk wr tq 30 300 Q)) (fun i _ => 24 - (intOf i).toNat)
        case atStart => exact ⟨0, by omega, rfl, Lib.hid ⟨HB.out.1, HB.out.2.1, HB.out.2.2.1⟩⟩
        case round =>
          obtain ⟨j, hj, rfl, R⟩ := hrel
          by_cases hlt : j < 24
          · have d1 : decide ((j : Int) < 24) = true := by simp; omega
            have m0 := R.out.2.1.cell (i := j) (by omega)
            have m1 := R.out.1.s.cell (i := j) (by omega)
            have m2 := R.out.2.2.cell (i := 276 + j) (by omega)
            have m3 := R.out.1.p.cell (i := 276 + j) (by omega)
            by_cases hjk : j = k
            · subst hjk
              have q1 : ((j : Int) != (j : Int)) = false := by simp
              go_upto_region 18 with fail
              go_quiet (fail)
              (try clear hHeld)
              go_wp2_with fail
              go_roundw
              case rel => exact ⟨j + 1, by omega, by go_num, Lib.hid ⟨R.out.1.drews _, R.out.2⟩⟩
              case measure => simp [intOf]; omega
            · have hjk' : (j : Int) ≠ (k : Int) := by omega
              have q1 : ((j : Int) != (k : Int)) = true := by simp; omega
              have q1' : decide ((j : Int) = (k : Int)) = false := by simp; omega
              rw [A1.out j hlt, if_neg hjk] at m0
              rw [A2.out j hlt, if_neg hjk] at m2
              obtain ⟨SV, hSV⟩ : ∃ x, awS j = x := ⟨_, rfl⟩
              obtain ⟨PV, hPV⟩ : ∃ x, P (276 + j) = x := ⟨_, rfl⟩
              rw [hSV] at m0 m1
              rw [hPV] at m2 m3
              have q2 : (SV != SV) = false := by simp
              have q3 : (PV != PV) = false := by simp
              clear hSV hPV
              go_upto_region 18 with fail
              go_quiet (fail)
              (try clear hHeld)
              go_wp2_with fail
              go_roundw
              case rel => exact ⟨j + 1, by omega, by go_num, Lib.hid ⟨R.out.1.drews _, R.out.2⟩⟩
              case measure => simp [intOf]; omega
          · have hj24 : j = 24 := by omega
            subst hj24
            have m1 := R.out.2.2.cell (i := 276 + k) (by omega)
            rw [A2.out k (by omega), if_pos rfl] at m1
            have c9 := R.out.1.flg.cell
            have f1 : decide (DV ≤ d) = true := by have := L1.out; simp; omega
            have f2 : decide (DV ≤ r + 1) = true := by have := L1.out; simp; omega
            go_wp2_with fail
            go_ret
            exact ⟨rfl, R.out.1.below⟩
theorem moves18_walk (k y d r : Int) (w : World) :
    Calls Try.prog 7 #[.int .i64 k, .int .i64 y, .int .i64 d, .int .i64 r] w fun e w' => e = .returned (.bool true) ∧ Below w.heap.size w w' := by
  by_cases h : k < 7 ∨ 10 ≤ k ∨ y < -35184372088832 ∨ 35184372088832 < y ∨ d < 1048576 ∨ 72057594037927936 < d ∨ r < 1048576 ∨ 72057594037927936 < r
  · exact moves18_noop k y d r w h
  · obtain ⟨n, rfl⟩ : ∃ n : Nat, k = (n : Int) := ⟨k.toNat, by omega⟩
    exact moves18_yes n y d r w (by omega) (by omega) (by omega) (by omega) (by omega)
end Go.Proofs.Ytchholofnccbmaa
