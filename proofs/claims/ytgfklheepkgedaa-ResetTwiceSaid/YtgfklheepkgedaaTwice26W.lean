/- The walk of ResetTwice. -/
import Derived.Test.YtgfklheepkgedaaS01
import Derived.Test.YtgfklheepkgedaaTwP
namespace Go.Proofs.Ytgfklheepkgedaa
open Go.RowKit
set_option maxRecDepth 100000
open Go in
theorem run_build_td0 {o : Oper} {ev : Operand → Value} {w : World} (ho : o.op = .build 38 #[]) : (execOp ev o).run Try.prog w = .ok (.value (.agg (arrv 11 (fun _ => 0)))) w := by
  unfold execOp
  simp only [ho, List.map_toArray, List.map_nil]
  kernel_rfl
/-- The law's own blocks: the estimate, the factors, what is asked; the flag. -/
structure LwR (bc : Nat) (h : Bool) (K P T : Nat → Int) (w wr : World) : Prop where
  below : Below w.heap.size w wr
  fl : Flg wr bc h
  s : Blk wr w.heap.size 27 24 K
  p : Blk wr (w.heap.size + 1) 30 300 P
  t : Blk wr (w.heap.size + 1 + 1) 34 3 T
  lt : w.heap.size + 1 + 1 < bc
section
variable {bc : Nat} {h h' : Bool} {K P T : Nat → Int} {w wr w' : World}
theorem LwR.down (s : LwR bc h K P T w wr) (u : Below wr.heap.size wr w') : LwR bc h K P T w w' := ⟨s.below.trans (u.mono s.below.size), s.fl.below u, s.s.below u, s.p.below u, s.t.below u, s.lt⟩
theorem LwR.upd' (s : LwR bc h K P T w wr) (u : Upd ⟨bc, 0, none⟩ h' wr w') : LwR bc h' K P T w w' := by
  have := s.lt
  exact ⟨own_upd s.below (by simp only; omega) u, s.fl.hit u, s.s.upd u (by simp only; omega), s.p.upd u (by simp only; omega), s.t.upd u (by simp only; omega), s.lt⟩
theorem LwR.rowS (s : LwR bc h K P T w wr) (F : Nat → Int) : LwR bc h F P T w (wr.setRow w.heap.size (arrv 24 F)) := by
  have := s.lt
  exact ⟨below_row s.below (Nat.le_refl _) _, s.fl.row _ (by omega), s.s.setRow F, s.p.setRow_other _ (by omega), s.t.setRow_other _ (by omega), s.lt⟩
theorem LwR.rowP (s : LwR bc h K P T w wr) (F : Nat → Int) : LwR bc h K F T w (wr.setRow (w.heap.size + 1) (arrv 300 F)) := by
  have := s.lt
  exact ⟨below_row s.below (by omega) _, s.fl.row _ (by omega), s.s.setRow_other _ (by omega), s.p.setRow F, s.t.setRow_other _ (by omega), s.lt⟩
theorem LwR.far (s : LwR bc h K P T w wr) {b : Nat} (hb : bc < b) (cs : Array Value) : LwR bc h K P T w (wr.setRow b cs) := by
  have := s.lt
  exact ⟨below_row s.below (by omega) _, s.fl.row _ (by omega), s.s.setRow_other _ (by omega), s.p.setRow_other _ (by omega), s.t.setRow_other _ (by omega), s.lt⟩
end
theorem lw_start (K P T : Nat → Int) (w w1 : World) (hb : Below (((w.alloc (.cells (arrv 24 K) 27)).alloc (.cells (arrv 300 P) 30)).alloc (.cells (arrv 3 T) 34)).heap.size (((w.alloc (.cells (arrv 24 K) 27)).alloc (.cells (arrv 300 P) 30)).alloc (.cells (arrv 3 T) 34)) w1) :
    LwR w1.heap.size false K P T w (w1.alloc (.cells #[.bool false] 25)) := by
  have bl : Below w.heap.size w (((w.alloc (.cells (arrv 24 K) 27)).alloc (.cells (arrv 300 P) 30)).alloc (.cells (arrv 3 T) 34)) := by (repeat (first | with_reducible exact Below.refl _ _ | with_reducible apply Below.drew | (with_reducible refine below_drewN ?_ _) | (with_reducible refine Below.alloc ?_ (by (try simp) <;> omega) _) | (with_reducible refine Below.setCell ?_ (by (try simp) <;> omega) _)))
  have z := hb.size
  simp at z
  have b2 : Below w.heap.size w w1 := bl.trans (hb.mono bl.size)
  exact ⟨b2.alloc b2.size _, Flg.new _ _, ((((Blk.new w _ 24 _).alloc _).alloc _).below hb).alloc _, (((Blk.new1 w _ _ 300 _).alloc _).below hb).alloc _, ((blk_new2 w _ _ _ 3 _).below hb).alloc _, by omega⟩
/-- .. and the two estimates, and what is told. -/
structure TdR (bc ab bb db : Nat) (h : Bool) (K P T A B D : Nat → Int) (w wr : World) : Prop where
  l : LwR bc h K P T w wr
  a : Blk wr ab 27 24 A
  b : Blk wr bb 27 24 B
  d : Blk wr db 38 11 D
  lt : bc < ab ∧ bc < bb ∧ ab ≠ bb ∧ ab < db ∧ bb < db
section
variable {bc ab bb db : Nat} {h h' : Bool} {K P T A B D : Nat → Int} {w wr w' : World}
theorem TdR.down (s : TdR bc ab bb db h K P T A B D w wr) (u : Below wr.heap.size wr w') : TdR bc ab bb db h K P T A B D w w' := ⟨s.l.down u, s.a.below u, s.b.below u, s.d.below u, s.lt⟩
theorem TdR.upd' (s : TdR bc ab bb db h K P T A B D w wr) (u : Upd ⟨bc, 0, none⟩ h' wr w') : TdR bc ab bb db h' K P T A B D w w' := by
  have := s.lt
  exact ⟨s.l.upd' u, s.a.upd u (by simp only; omega), s.b.upd u (by simp only; omega), s.d.upd u (by simp only; omega), s.lt⟩
theorem TdR.rowA (s : TdR bc ab bb db h K P T A B D w wr) (F : Nat → Int) : TdR bc ab bb db h K P T F B D w (wr.setRow ab (arrv 24 F)) := by
  have := s.lt
  exact ⟨s.l.far (by omega) _, s.a.setRow F, s.b.setRow_other _ (by omega), s.d.setRow_other _ (by omega), s.lt⟩
theorem TdR.rowB (s : TdR bc ab bb db h K P T A B D w wr) (F : Nat → Int) : TdR bc ab bb db h K P T A F D w (wr.setRow bb (arrv 24 F)) := by
  have := s.lt
  exact ⟨s.l.far (by omega) _, s.a.setRow_other _ (by omega), s.b.setRow F, s.d.setRow_other _ (by omega), s.lt⟩
theorem TdR.rowD (s : TdR bc ab bb db h K P T A B D w wr) (F : Nat → Int) : TdR bc ab bb db h K P T A B F w (wr.setRow db (arrv 11 F)) := by
  have := s.lt
  exact ⟨s.l.far (by omega) _, s.a.setRow_other _ (by omega), s.b.setRow_other _ (by omega), s.d.setRow F, s.lt⟩
theorem TdR.rowP (s : TdR bc ab bb db h K P T A B D w wr) (F : Nat → Int) : TdR bc ab bb db h K F T A B D w (wr.setRow (w.heap.size + 1) (arrv 300 F)) := by
  have := s.lt
  have := s.l.lt
  exact ⟨s.l.rowP F, s.a.setRow_other _ (by omega), s.b.setRow_other _ (by omega), s.d.setRow_other _ (by omega), s.lt⟩
theorem tw_new (s : LwR bc h K P T w wr) (b : Nat) (hb : wr.heap.size = b) : Blk (wr.alloc (.cells #[.int .i64 0, .int .i64 0, .int .i64 0, .int .i64 0, .int .i64 0, .int .i64 0, .int .i64 0, .int .i64 0, .int .i64 0, .int .i64 0, .int .i64 0, .int .i64 0, .int .i64 0, .int .i64 0, .int .i64 0, .int .i64 0, .int .i64 0, .int .i64 0, .int .i64 0, .int .i64 0, .int .i64 0, .int .i64 0, .int .i64 0, .int .i64 0] 27)) b 27 24 (fun _ => 0) ∧ bc < b := by
  subst hb
  rw [zvec24]
  exact ⟨Blk.new _ _ _ _, s.fl.lt⟩
theorem tw_ne {a : Nat} {F : Nat → Int} (s : Blk wr a 27 24 F ∧ bc < a) (b : Nat) (hb : wr.heap.size = b) : a ≠ b := by
  have := s.1.lt
  omega
theorem tw_old {b : Nat} {F : Nat → Int} (s : Blk wr b 27 24 F ∧ bc < b) (o : Obj) : Blk (wr.alloc o) b 27 24 F ∧ bc < b := ⟨s.1.alloc o, s.2⟩
theorem tw_put (s : LwR bc h K P T w wr) {a b : Nat} {F G : Nat → Int} (ha : Blk wr a 27 24 F ∧ bc < a) (hb : Blk wr b 27 24 G ∧ bc < b) (hn : a ≠ b) (X : Nat → Int) :
    LwR bc h K P T w ((wr.setRow a (arrv 24 X)).setRow b (arrv 24 X)) ∧ Blk ((wr.setRow a (arrv 24 X)).setRow b (arrv 24 X)) a 27 24 X ∧ Blk ((wr.setRow a (arrv 24 X)).setRow b (arrv 24 X)) b 27 24 X ∧ bc < a ∧ bc < b ∧ a ≠ b :=
  ⟨(s.far ha.2 _).far hb.2 _, (ha.1.setRow X).setRow_other _ hn, (hb.1.setRow_other _ (Ne.symm hn)).setRow X, ha.2, hb.2, hn⟩
theorem td_new {a b : Nat} {F G : Nat → Int} (s : LwR bc h K P T w wr ∧ Blk wr a 27 24 F ∧ Blk wr b 27 24 G ∧ bc < a ∧ bc < b ∧ a ≠ b) :
    TdR bc a b wr.heap.size h K P T F G (fun _ => 0) w ((wr.alloc (.cells #[.int .i64 0, .int .i64 0, .int .i64 0, .int .i64 0, .int .i64 0, .int .i64 0, .int .i64 0, .int .i64 0, .int .i64 0, .int .i64 0, .int .i64 0] 38)).setRow wr.heap.size (arrv 11 (fun _ => 0))) := by
  have bl : Below wr.heap.size wr ((wr.alloc (.cells #[.int .i64 0, .int .i64 0, .int .i64 0, .int .i64 0, .int .i64 0, .int .i64 0, .int .i64 0, .int .i64 0, .int .i64 0, .int .i64 0, .int .i64 0] 38)).setRow wr.heap.size (arrv 11 (fun _ => 0))) := below_row ((Below.refl _ _).alloc (Nat.le_refl _) _) (Nat.le_refl _) _
  refine ⟨s.1.down bl, s.2.1.below bl, s.2.2.1.below bl, ?_, s.2.2.2.1, s.2.2.2.2.1, s.2.2.2.2.2, s.2.1.lt, s.2.2.1.lt⟩
  rw [ztd]
  exact (Blk.new _ _ _ _).setRow _
end
set_option maxHeartbeats 32000000 in
theorem twice26_walk (S P T : Nat → Int) (v u : Int) (w : World) :
    Calls Try.prog 5 #[.agg (arrv 24 S), .agg (arrv 300 P), .agg (arrv 3 T), .int .i64 v, .int .i64 u] w fun e w' => e = .returned (.bool true) ∧ Below w.heap.size w w' := by
  have GS := Lib.hid (fun (w1 : World) hb => lw_start S P T w w1 hb)
  go_enter Try.func5, Try.ntmps5
  go_upto_region 3 with (go_at_call 6; (refine (awake26_any _).mono ?_); rintro e w1 ⟨rfl, hb1⟩)
  have S0 := Lib.hid (GS.out w1 hb1)
  clear hb1 GS
  go_upto_region 4 with fail
  generalize w1.alloc (.cells #[.bool false] 25) = W0 at *
  obtain ⟨bc, hbc⟩ : ∃ x, w1.heap.size = x := ⟨_, rfl⟩
  rw [hbc] at S0 ⊢
  clear hbc
  have P0 := S0.out.s
  refine wp_region_lit ?_
  refine wpList_val (v := ?_) rfl ?_ ?_
  rotate_left
  · (go_simp; (try (first | with_reducible rfl | (constructor <;> with_reducible rfl))))
  (try simp only [Act.put, nA, nB, nC])
  refine wpList_val (v := ?_) rfl ?_ ?_
  rotate_left
  · refine Eq.trans (run_load_row 27 (.tmp 5) (by rfl) (w.heap.size) (by rfl) _ _ _ _ (P0) Try.underlying27 rfl (ist.trans (by rw [arrv_size]))) ?_; with_reducible rfl
  (try simp only [Act.put, nA, nB, nC])
  refine wpList_step (fun K hK => ?_)
  go_simp
  clear P0; (refine (keep_any ⟨bc, 0, none⟩ false S _ S0.out.fl.cell S0.out.fl.free).mono ?_); rintro e w2 ⟨rfl, hu⟩; have S1 := Lib.hid (S0.out.upd' hu); clear hu S0; have P1 := S1.out.s
  (try dsimp only)
  (try simp only [Act.put, nA, nB, nC])
  refine hK _ _ ?_
  clear hK K
  refine wpList_done (w' := ?_) rfl ?_ ?_
  rotate_left
  · refine Eq.trans (run_store_row 27 (.tmp 5) (.tmp 21) (by rfl) (w.heap.size) (by rfl) (by rfl) (P1) (ist.trans rfl)) ?_; with_reducible rfl
  (try simp only [Act.put, nA, nB, nC])
  refine wpList_nil ?_
  have S2 := Lib.hid (S1.out.rowS (keepF S))
  generalize w2.setRow w.heap.size (arrv 24 (keepF S)) = W2 at *
  clear P1 S1
  have HK := Lib.hid (keep_good S)
  obtain ⟨h0, hh0⟩ : ∃ x, (false || keepH S) = x := ⟨_, rfl⟩
  obtain ⟨KE, hKE⟩ : ∃ x, keepF S = x := ⟨_, rfl⟩
  rw [hKE] at S2 HK
  rw [hh0] at S2
  clear hKE hh0
  go_upto_region 5 with fail
  have HS := Lib.hid (S2.out.down (Below.drew (Below.refl _ _)))
  clear S2
  go_cut [12, 13] from 22 to 23 (fun s12 s13 wx => ∃ a b, s12 = .pointer (some ⟨a, 0, none⟩) ∧ s13 = .pointer (some ⟨b, 0, none⟩) ∧ Hid (LwR bc h0 KE P T w wx ∧ Blk wx a 27 24 KE ∧ Blk wx b 27 24 KE ∧ bc < a ∧ bc < b ∧ a ≠ b))
  case first =>
    refine wp_region_M (fun w' => Blk w' w.heap.size 27 24 KE) 5 (by kernel_rfl) ?_ (fun hHeld => ?_)
    · first | exact HS.out.s | exact HS.out.s.setRow_other _ (by have := HA.out.2; have := HS.out.lt; omega)
    refine wpAnyM_take 0 (v := ?_) rfl (by kernel_rfl) (fun _ _ _ h => h) (Or.inl ⟨by rfl, ?_⟩) (by assumption) ?_
    rotate_left
    · (intro wx hSw; refine Eq.trans (run_load_row 27 (.tmp 5) (by rfl) (w.heap.size) (by rfl) _ _ _ _ (hSw) Try.underlying27 rfl (ist.trans (by rw [arrv_size]))) ?_; with_reducible rfl)
    (try simp only [Act.put, nA, nB, nC])
    refine wpAnyM_take 1 (v := ?_) rfl (by kernel_rfl) (fun _ _ _ h => h) (Or.inl ⟨by rfl, ?_⟩) (by assumption) ?_
    rotate_left
    · (intro wx hSw; refine Eq.trans (run_load_row 27 (.tmp 5) (by rfl) (w.heap.size) (by rfl) _ _ _ _ (hSw) Try.underlying27 rfl (ist.trans (by rw [arrv_size]))) ?_; with_reducible rfl)
    (try simp only [Act.put, nA, nB, nC])
    refine wpAnyM_twoS 2 3 rfl rfl (by kernel_rfl) (fun K hK => ?_) (fun K hK => ?_)
    · go_simp; have HA := Lib.hid (tw_new HS.out _ (by first | (simp; rfl) | rfl)); (try (have HN := Lib.hid (tw_ne HB.out _ (by first | (simp; rfl) | rfl)))); (try (have HB2 := Lib.hid (tw_old HB.out (.cells #[.int .i64 0, .int .i64 0, .int .i64 0, .int .i64 0, .int .i64 0, .int .i64 0, .int .i64 0, .int .i64 0, .int .i64 0, .int .i64 0, .int .i64 0, .int .i64 0, .int .i64 0, .int .i64 0, .int .i64 0, .int .i64 0, .int .i64 0, .int .i64 0, .int .i64 0, .int .i64 0, .int .i64 0, .int .i64 0, .int .i64 0, .int .i64 0] 27)); clear HB; have HB := HB2; clear HB2)); have HU := Lib.hid (HS.out.down ((Below.refl _ _).alloc (Nat.le_refl _) (.cells #[.int .i64 0, .int .i64 0, .int .i64 0, .int .i64 0, .int .i64 0, .int .i64 0, .int .i64 0, .int .i64 0, .int .i64 0, .int .i64 0, .int .i64 0, .int .i64 0, .int .i64 0, .int .i64 0, .int .i64 0, .int .i64 0, .int .i64 0, .int .i64 0, .int .i64 0, .int .i64 0, .int .i64 0, .int .i64 0, .int .i64 0, .int .i64 0] 27))); clear HS; have HS := HU; clear HU
      clear hHeld
      refine hK.out _ _ ?_ (fun hHeld => ?_)
      · first | exact HS.out.s | exact HS.out.s.setRow_other _ (by have := HA.out.2; have := HS.out.lt; omega)
      clear hK K
      (try simp only [Act.put, nA, nB, nC])
      refine wpAnyM_oneS 3 rfl (by kernel_rfl) (fun K hK => ?_)
      go_simp; have HB := Lib.hid (tw_new HS.out _ (by first | (simp; rfl) | rfl)); (try (have HN := Lib.hid (tw_ne HA.out _ (by first | (simp; rfl) | rfl)))); (try (have HB2 := Lib.hid (tw_old HA.out (.cells #[.int .i64 0, .int .i64 0, .int .i64 0, .int .i64 0, .int .i64 0, .int .i64 0, .int .i64 0, .int .i64 0, .int .i64 0, .int .i64 0, .int .i64 0, .int .i64 0, .int .i64 0, .int .i64 0, .int .i64 0, .int .i64 0, .int .i64 0, .int .i64 0, .int .i64 0, .int .i64 0, .int .i64 0, .int .i64 0, .int .i64 0, .int .i64 0] 27)); clear HA; have HA := HB2; clear HB2)); have HU := Lib.hid (HS.out.down ((Below.refl _ _).alloc (Nat.le_refl _) (.cells #[.int .i64 0, .int .i64 0, .int .i64 0, .int .i64 0, .int .i64 0, .int .i64 0, .int .i64 0, .int .i64 0, .int .i64 0, .int .i64 0, .int .i64 0, .int .i64 0, .int .i64 0, .int .i64 0, .int .i64 0, .int .i64 0, .int .i64 0, .int .i64 0, .int .i64 0, .int .i64 0, .int .i64 0, .int .i64 0, .int .i64 0, .int .i64 0] 27))); clear HS; have HS := HU; clear HU
      clear hHeld
      refine hK.out _ _ ?_ (fun hHeld => ?_)
      · first | exact HS.out.s | exact HS.out.s.setRow_other _ (by have := HA.out.2; have := HS.out.lt; omega)
      clear hK K
      (try simp only [Act.put, nA, nB, nC])
      clear hHeld
      refine wpAnyM_doneN 4 rfl (by kernel_rfl) (by rfl) (run_store_row 27 (.tmp 12) (.tmp 22) rfl _ rfl rfl HA.out.1 ist) ?_ (fun hHeld => ?_)
      · first | exact HS.out.s | exact HS.out.s.setRow_other _ (by have := HA.out.2; have := HS.out.lt; omega)
      (try simp only [Act.put, nA, nB, nC])
      refine wpAnyM_doneL 5 rfl (by kernel_rfl) (by rfl) (by kernel_rfl) (run_store_row 27 (.tmp 13) (.tmp 23) rfl _ rfl rfl (HB.out.1.setRow_other _ (by first | exact HN.out | exact Ne.symm HN.out)) ist) ?_
      (try simp only [Act.put, nA, nB, nC])
      refine wpAnyM_done (by kernel_rfl) ?_ _
      (go_wp2_with fail; go_meet; exact ⟨_, _, rfl, rfl, Lib.hid (tw_put HS.out HA.out HB.out (by first | exact HN.out | exact Ne.symm HN.out) KE)⟩)
    · go_simp; have HB := Lib.hid (tw_new HS.out _ (by first | (simp; rfl) | rfl)); (try (have HN := Lib.hid (tw_ne HA.out _ (by first | (simp; rfl) | rfl)))); (try (have HB2 := Lib.hid (tw_old HA.out (.cells #[.int .i64 0, .int .i64 0, .int .i64 0, .int .i64 0, .int .i64 0, .int .i64 0, .int .i64 0, .int .i64 0, .int .i64 0, .int .i64 0, .int .i64 0, .int .i64 0, .int .i64 0, .int .i64 0, .int .i64 0, .int .i64 0, .int .i64 0, .int .i64 0, .int .i64 0, .int .i64 0, .int .i64 0, .int .i64 0, .int .i64 0, .int .i64 0] 27)); clear HA; have HA := HB2; clear HB2)); have HU := Lib.hid (HS.out.down ((Below.refl _ _).alloc (Nat.le_refl _) (.cells #[.int .i64 0, .int .i64 0, .int .i64 0, .int .i64 0, .int .i64 0, .int .i64 0, .int .i64 0, .int .i64 0, .int .i64 0, .int .i64 0, .int .i64 0, .int .i64 0, .int .i64 0, .int .i64 0, .int .i64 0, .int .i64 0, .int .i64 0, .int .i64 0, .int .i64 0, .int .i64 0, .int .i64 0, .int .i64 0, .int .i64 0, .int .i64 0] 27))); clear HS; have HS := HU; clear HU
      clear hHeld
      refine hK.out _ _ ?_ (fun hHeld => ?_)
      · first | exact HS.out.s | exact HS.out.s.setRow_other _ (by have := HA.out.2; have := HS.out.lt; omega)
      clear hK K
      (try simp only [Act.put, nA, nB, nC])
      refine wpAnyM_oneS 2 rfl (by kernel_rfl) (fun K hK => ?_)
      go_simp; have HA := Lib.hid (tw_new HS.out _ (by first | (simp; rfl) | rfl)); (try (have HN := Lib.hid (tw_ne HB.out _ (by first | (simp; rfl) | rfl)))); (try (have HB2 := Lib.hid (tw_old HB.out (.cells #[.int .i64 0, .int .i64 0, .int .i64 0, .int .i64 0, .int .i64 0, .int .i64 0, .int .i64 0, .int .i64 0, .int .i64 0, .int .i64 0, .int .i64 0, .int .i64 0, .int .i64 0, .int .i64 0, .int .i64 0, .int .i64 0, .int .i64 0, .int .i64 0, .int .i64 0, .int .i64 0, .int .i64 0, .int .i64 0, .int .i64 0, .int .i64 0] 27)); clear HB; have HB := HB2; clear HB2)); have HU := Lib.hid (HS.out.down ((Below.refl _ _).alloc (Nat.le_refl _) (.cells #[.int .i64 0, .int .i64 0, .int .i64 0, .int .i64 0, .int .i64 0, .int .i64 0, .int .i64 0, .int .i64 0, .int .i64 0, .int .i64 0, .int .i64 0, .int .i64 0, .int .i64 0, .int .i64 0, .int .i64 0, .int .i64 0, .int .i64 0, .int .i64 0, .int .i64 0, .int .i64 0, .int .i64 0, .int .i64 0, .int .i64 0, .int .i64 0] 27))); clear HS; have HS := HU; clear HU
      clear hHeld
      refine hK.out _ _ ?_ (fun hHeld => ?_)
      · first | exact HS.out.s | exact HS.out.s.setRow_other _ (by have := HA.out.2; have := HS.out.lt; omega)
      clear hK K
      (try simp only [Act.put, nA, nB, nC])
      clear hHeld
      refine wpAnyM_doneN 4 rfl (by kernel_rfl) (by rfl) (run_store_row 27 (.tmp 12) (.tmp 22) rfl _ rfl rfl HA.out.1 ist) ?_ (fun hHeld => ?_)
      · first | exact HS.out.s | exact HS.out.s.setRow_other _ (by have := HA.out.2; have := HS.out.lt; omega)
      (try simp only [Act.put, nA, nB, nC])
      refine wpAnyM_doneL 5 rfl (by kernel_rfl) (by rfl) (by kernel_rfl) (run_store_row 27 (.tmp 13) (.tmp 23) rfl _ rfl rfl (HB.out.1.setRow_other _ (by first | exact HN.out | exact Ne.symm HN.out)) ist) ?_
      (try simp only [Act.put, nA, nB, nC])
      refine wpAnyM_done (by kernel_rfl) ?_ _
      (go_wp2_with fail; go_meet; exact ⟨_, _, rfl, rfl, Lib.hid (tw_put HS.out HA.out HB.out (by first | exact HN.out | exact Ne.symm HN.out) KE)⟩)
  case rest =>
  obtain ⟨ab, bb, rfl, rfl, S3⟩ := hcut
  clear HS
  go_upto_region 6 with fail
  refine wp_region_lit ?_
  refine wpList_val (v := ?_) rfl ?_ ?_
  rotate_left
  · (refine Eq.trans (run_build_td0 (by rfl)) ?_; with_reducible rfl)
  (try simp only [Act.put, nA, nB, nC])
  refine wpList_act (v := ?_) (w' := ?_) rfl ?_ ?_
  rotate_left 2
  · (go_simp; (try (first | with_reducible rfl | (constructor <;> with_reducible rfl))))
  (try simp only [Act.put, nA, nB, nC])
  refine wpList_done (w' := ?_) rfl ?_ ?_
  rotate_left
  · (refine Eq.trans (run_store_row 38 (.tmp 14) (.tmp 24) (by rfl) (wc.heap.size) (by rfl) (by rfl) (show Blk (wc.alloc (.cells #[.int .i64 0, .int .i64 0, .int .i64 0, .int .i64 0, .int .i64 0, .int .i64 0, .int .i64 0, .int .i64 0, .int .i64 0, .int .i64 0, .int .i64 0] 38)) wc.heap.size 38 11 (fun _ => 0) by rw [ztd]; exact Blk.new _ _ _ _) (itd.trans rfl)) ?_; with_reducible rfl)
  (try simp only [Act.put, nA, nB, nC])
  refine wpList_nil ?_
  have S4 := Lib.hid (td_new S3.out)
  generalize (wc.alloc (.cells #[.int .i64 0, .int .i64 0, .int .i64 0, .int .i64 0, .int .i64 0, .int .i64 0, .int .i64 0, .int .i64 0, .int .i64 0, .int .i64 0, .int .i64 0] 38)).setRow wc.heap.size (arrv 11 (fun _ => 0)) = W4 at *
  obtain ⟨db, hdb⟩ : ∃ x, wc.heap.size = x := ⟨_, rfl⟩
  rw [hdb] at S4 ⊢
  clear hdb S3
  obtain ⟨t0, ht0⟩ : ∃ x, T 0 = x := ⟨_, rfl⟩
  obtain ⟨t1, ht1⟩ : ∃ x, T 1 = x := ⟨_, rfl⟩
  obtain ⟨t2, ht2⟩ : ∃ x, T 2 = x := ⟨_, rfl⟩
  go_upto_region 9 with fail
  obtain ⟨m, hm⟩ : ∃ m, Go.bits Go.BinOp.and Go.IntKind.i64 u 3 = m := ⟨_, rfl⟩
  rw [hm]
  clear hm
  by_cases e0 : m = 0
  · subst e0
    obtain ⟨A1, hA1⟩ : ∃ x, jpS KE 4 T 3 = x := ⟨_, rfl⟩
    obtain ⟨P1, hP1⟩ : ∃ x, stepF P (rtF 4 3) (rtQ 4 (fun _ => v) 3) = x := ⟨_, rfl⟩
    obtain ⟨h1, hh1⟩ : ∃ x, (jpH h0 KE 4 T 3 || orB (rtB 4 (fun _ => v)) 3 || stepH P (rtF 4 3) (rtQ 4 (fun _ => v) 3)) = x := ⟨_, rfl⟩
    have tw := jp_twice KE (fr := 4) (n := 3) T (by decide) (by decide)
    have C1 := fun (x : World) (k : x.cell? ⟨bc, 0, none⟩ = some (.bool h0)) (f : x.frozen? ⟨bc, 0, none⟩ = false) => vel_any ⟨bc, 0, none⟩ h0 KE P T v x k f
    have C2 := fun (x : World) (k : x.cell? ⟨bc, 0, none⟩ = some (.bool h1)) (f : x.frozen? ⟨bc, 0, none⟩ = false) => vel_any ⟨bc, 0, none⟩ h1 A1 P1 T v x k f
    rw [hA1, hP1, hh1] at C1
    rw [hA1] at tw
    rw [tw.1] at C2
    have TD := tw_told (D := mvD (keepF A1) 4 T) (off := 4) (n := 3) 2 (by decide) tw.2
    obtain ⟨D1, hD1⟩ : ∃ x, midF (tdF dl0 2) 4 3 (mvD (keepF KE) 4 T) = x := ⟨_, rfl⟩
    obtain ⟨D2, hD2⟩ : ∃ x, midF (tdF dl0 2) 4 3 (mvD (keepF A1) 4 T) = x := ⟨_, rfl⟩
    obtain ⟨P2, hP2⟩ : ∃ x, stepF P1 (rtF 4 3) (rtQ 4 (fun _ => v) 3) = x := ⟨_, rfl⟩
    obtain ⟨h2, hh2⟩ : ∃ x, (jpH h1 A1 4 T 3 || orB (rtB 4 (fun _ => v)) 3 || stepH P1 (rtF 4 3) (rtQ 4 (fun _ => v) 3)) = x := ⟨_, rfl⟩
    rw [hD1] at C1
    rw [hD2, hP2, hh2] at C2
    rw [hD2] at TD
    have K1 := Lib.hid C1
    have K2 := Lib.hid C2
    have TD := Lib.hid TD
    clear C1 C2 tw hA1 hP1 hh1 hD1 hD2 hP2 hh2
    go_upto_region 10 with fail
    have P0 := S4.out.l.s
    have P9 := S4.out.l.p
    have P8 := S4.out.l.t
    refine wp_region_lit ?_
    refine wpList_val (v := ?_) rfl ?_ ?_
    rotate_left
    · (go_simp; (try (first | with_reducible rfl | (constructor <;> with_reducible rfl))))
    (try simp only [Act.put, nA, nB, nC])
    refine wpList_val (v := ?_) rfl ?_ ?_
    rotate_left
    · refine Eq.trans (run_load_row 27 (.tmp 5) (by rfl) (w.heap.size) (by rfl) _ _ _ _ (P0) Try.underlying27 rfl (ist.trans (by rw [arrv_size]))) ?_; with_reducible rfl
    (try simp only [Act.put, nA, nB, nC])
    refine wpList_val (v := ?_) rfl ?_ ?_
    rotate_left
    · refine Eq.trans (run_load_row 30 (.tmp 6) (by rfl) (w.heap.size + 1) (by rfl) _ _ _ _ (P9) Try.underlying30 rfl (icov.trans (by rw [arrv_size]))) ?_; with_reducible rfl
    (try simp only [Act.put, nA, nB, nC])
    refine wpList_val (v := ?_) rfl ?_ ?_
    rotate_left
    · refine Eq.trans (run_load_row 34 (.tmp 7) (by rfl) (w.heap.size + 1 + 1) (by rfl) _ _ _ _ (P8) Try.underlying34 rfl (iv3.trans (by rw [arrv_size]))) ?_; with_reducible rfl
    (try simp only [Act.put, nA, nB, nC])
    refine wpList_val (v := ?_) rfl ?_ ?_
    rotate_left
    · (go_simp; (try (first | with_reducible rfl | (constructor <;> with_reducible rfl))))
    (try simp only [Act.put, nA, nB, nC])
    refine wpList_step (fun K hK => ?_)
    go_simp
    (refine (K1.out _ S4.out.l.fl.cell S4.out.l.fl.free).mono ?_); rintro e v0 ⟨rfl, hu⟩; have HU := Lib.hid (S4.out.upd' hu); clear S4 hu P0 P9 P8; have S4 := HU; clear HU
    (try dsimp only)
    (try simp only [Act.put, nA, nB, nC])
    refine hK _ _ ?_
    clear hK K
    refine wpList_val (v := ?_) rfl ?_ ?_
    rotate_left
    · (go_simp; (try (first | with_reducible rfl | (constructor <;> with_reducible rfl))))
    (try simp only [Act.put, nA, nB, nC])
    refine wpList_val (v := ?_) rfl ?_ ?_
    rotate_left
    · (go_simp; (try (first | with_reducible rfl | (constructor <;> with_reducible rfl))))
    (try simp only [Act.put, nA, nB, nC])
    refine wpList_val (v := ?_) rfl ?_ ?_
    rotate_left
    · (go_simp; (try (first | with_reducible rfl | (constructor <;> with_reducible rfl))))
    (try simp only [Act.put, nA, nB, nC])
    refine wpList_val (v := ?_) rfl ?_ ?_
    rotate_left
    · (go_simp; (try (first | with_reducible rfl | (constructor <;> with_reducible rfl))))
    (try simp only [Act.put, nA, nB, nC])
    refine wpList_done (w' := ?_) rfl ?_ ?_
    rotate_left
    · (refine Eq.trans (run_store_row 27 (.tmp 12) (.tmp 36) (by rfl) ab (by rfl) (by rfl) S4.out.a (ist.trans rfl)) ?_; with_reducible rfl)
    (try simp only [Act.put, nA, nB, nC])
    refine wpList_done (w' := ?_) rfl ?_ ?_
    rotate_left
    · (refine Eq.trans (run_store_row 30 (.tmp 6) (.tmp 37) (by rfl) (w.heap.size + 1) (by rfl) (by rfl) (S4.out.rowA A1).l.p (icov.trans rfl)) ?_; with_reducible rfl)
    (try simp only [Act.put, nA, nB, nC])
    refine wpList_nil ?_
    have HU := Lib.hid ((S4.out.rowA A1).rowP P1)
    generalize (v0.setRow ab (arrv 24 A1)).setRow (w.heap.size + 1) (arrv 300 P1) = V0 at *
    clear S4
    have S4 := HU
    clear HU
    go_upto_region 11 with fail
    have P0 := S4.out.a
    have P9 := S4.out.l.p
    have P8 := S4.out.l.t
    refine wp_region_lit ?_
    refine wpList_val (v := ?_) rfl ?_ ?_
    rotate_left
    · (go_simp; (try (first | with_reducible rfl | (constructor <;> with_reducible rfl))))
    (try simp only [Act.put, nA, nB, nC])
    refine wpList_val (v := ?_) rfl ?_ ?_
    rotate_left
    · refine Eq.trans (run_load_row 27 (.tmp 12) (by rfl) (ab) (by rfl) _ _ _ _ (P0) Try.underlying27 rfl (ist.trans (by rw [arrv_size]))) ?_; with_reducible rfl
    (try simp only [Act.put, nA, nB, nC])
    refine wpList_val (v := ?_) rfl ?_ ?_
    rotate_left
    · refine Eq.trans (run_load_row 30 (.tmp 6) (by rfl) (w.heap.size + 1) (by rfl) _ _ _ _ (P9) Try.underlying30 rfl (icov.trans (by rw [arrv_size]))) ?_; with_reducible rfl
    (try simp only [Act.put, nA, nB, nC])
    refine wpList_val (v := ?_) rfl ?_ ?_
    rotate_left
    · refine Eq.trans (run_load_row 34 (.tmp 7) (by rfl) (w.heap.size + 1 + 1) (by rfl) _ _ _ _ (P8) Try.underlying34 rfl (iv3.trans (by rw [arrv_size]))) ?_; with_reducible rfl
    (try simp only [Act.put, nA, nB, nC])
    refine wpList_val (v := ?_) rfl ?_ ?_
    rotate_left
    · (go_simp; (try (first | with_reducible rfl | (constructor <;> with_reducible rfl))))
    (try simp only [Act.put, nA, nB, nC])
    refine wpList_step (fun K hK => ?_)
    go_simp
    (refine (K2.out _ S4.out.l.fl.cell S4.out.l.fl.free).mono ?_); rintro e v1 ⟨rfl, hu⟩; have HU := Lib.hid (S4.out.upd' hu); clear S4 hu P0 P9 P8; have S4 := HU; clear HU
    (try dsimp only)
    (try simp only [Act.put, nA, nB, nC])
    refine hK _ _ ?_
    clear hK K
    refine wpList_val (v := ?_) rfl ?_ ?_
    rotate_left
    · (go_simp; (try (first | with_reducible rfl | (constructor <;> with_reducible rfl))))
    (try simp only [Act.put, nA, nB, nC])
    refine wpList_val (v := ?_) rfl ?_ ?_
    rotate_left
    · (go_simp; (try (first | with_reducible rfl | (constructor <;> with_reducible rfl))))
    (try simp only [Act.put, nA, nB, nC])
    refine wpList_val (v := ?_) rfl ?_ ?_
    rotate_left
    · (go_simp; (try (first | with_reducible rfl | (constructor <;> with_reducible rfl))))
    (try simp only [Act.put, nA, nB, nC])
    refine wpList_val (v := ?_) rfl ?_ ?_
    rotate_left
    · (go_simp; (try (first | with_reducible rfl | (constructor <;> with_reducible rfl))))
    (try simp only [Act.put, nA, nB, nC])
    refine wpList_done (w' := ?_) rfl ?_ ?_
    rotate_left
    · (refine Eq.trans (run_store_row 27 (.tmp 13) (.tmp 46) (by rfl) bb (by rfl) (by rfl) S4.out.b (ist.trans rfl)) ?_; with_reducible rfl)
    (try simp only [Act.put, nA, nB, nC])
    refine wpList_done (w' := ?_) rfl ?_ ?_
    rotate_left
    · (refine Eq.trans (run_store_row 38 (.tmp 14) (.tmp 48) (by rfl) db (by rfl) (by rfl) (S4.out.rowB A1).d (itd.trans rfl)) ?_; with_reducible rfl)
    (try simp only [Act.put, nA, nB, nC])
    refine wpList_nil ?_
    have HU := Lib.hid ((S4.out.rowB A1).rowD D2)
    generalize (v1.setRow bb (arrv 24 A1)).setRow db (arrv 11 D2) = V1 at *
    clear S4
    have S4 := HU
    clear HU
    go_upto_region 18 with fail
    have HS := Lib.hid (S4.out.down (Below.drew (Below.refl _ _)))
    have HE := Lib.hid (eqB_refl 24 A1)
    clear S4
    refine wp_region_M (fun w' => Blk w' ab 27 24 A1 ∧ Blk w' bb 27 24 A1 ∧ Blk w' db 38 11 D2) 9 (by kernel_rfl) ?_ (fun hHeld => ?_)
    · exact ⟨HS.out.a, HS.out.b, HS.out.d⟩
    refine wpAnyM_take 0 (v := ?_) rfl (by kernel_rfl) (fun _ _ _ h => h) (Or.inl ⟨by rfl, ?_⟩) (by assumption) ?_
    rotate_left
    · (intro wx hSw; refine Eq.trans (run_load_row 27 (.tmp 12) (by rfl) (ab) (by rfl) _ _ _ _ (hSw.1) Try.underlying27 rfl (ist.trans (by rw [arrv_size]))) ?_; with_reducible rfl)
    (try simp only [Act.put, nA, nB, nC])
    refine wpAnyM_take 1 (v := ?_) rfl (by kernel_rfl) (fun _ _ _ h => h) (Or.inl ⟨by rfl, ?_⟩) (by assumption) ?_
    rotate_left
    · (intro wx hSw; refine Eq.trans (run_load_row 27 (.tmp 13) (by rfl) (bb) (by rfl) _ _ _ _ (hSw.2.1) Try.underlying27 rfl (ist.trans (by rw [arrv_size]))) ?_; with_reducible rfl)
    (try simp only [Act.put, nA, nB, nC])
    refine wpAnyM_take 2 (v := ?_) rfl (by kernel_rfl) (fun _ _ _ h => h) (Or.inl ⟨by rfl, ?_⟩) (by assumption) ?_
    rotate_left
    · (intro wx hSw; refine Eq.trans (run_op_eqlVec Try.underlying27 (by kernel_rfl) (.tmp 101) (.tmp 102) (by rfl) (by rfl) (by rfl) HE.out) ?_; with_reducible rfl)
    (try simp only [Act.put, nA, nB, nC])
    refine wpAnyM_take 3 (v := ?_) rfl (by kernel_rfl) (fun _ _ _ h => h) (Or.inl ⟨by rfl, ?_⟩) (by assumption) ?_
    rotate_left
    · (intro wx hSw; (try dsimp only at hSw); go_simp; (try with_reducible rfl))
    (try simp only [Act.put, nA, nB, nC])
    first | (refine wpAnyM_take 4 (v := ?_) rfl (by kernel_rfl) (fun _ _ _ h => h) (Or.inl ⟨by rfl, ?_⟩) (by assumption) ?_; rotate_left; focus ((intro wx hSw; (try dsimp only at hSw); go_simp; (try with_reducible rfl)))) | (refine wpAnyM_take 4 rfl (by kernel_rfl) (fun _ _ _ h => h) (Or.inr ⟨by rfl, rfl⟩) (by assumption) ?_)
    (try simp only [Act.put, nA, nB, nC])
    first | (refine wpAnyM_take 5 (v := ?_) rfl (by kernel_rfl) (fun _ _ _ h => h) (Or.inl ⟨by rfl, ?_⟩) (by assumption) ?_; rotate_left; focus ((intro wx hSw; refine Eq.trans (run_load_sub 36 (.tmp 105) (by rfl) db 0 10 (by rfl) hSw.2.2 (by decide) _ Try.underlying36 rfl idl) ?_; rw [TD.out]))) | (refine wpAnyM_take 5 rfl (by kernel_rfl) (fun _ _ _ h => h) (Or.inr ⟨by rfl, rfl⟩) (by assumption) ?_)
    (try simp only [Act.put, nA, nB, nC])
    refine wpAnyM_oneS 6 rfl (by kernel_rfl) (fun K hK => ?_)
    go_simp
    (refine (nothing_any _).mono ?_); rintro e u1 ⟨rfl, hb⟩; have HU := Lib.hid (HS.out.down hb); clear HS hb; have HS := HU; clear HU
    (try dsimp only)
    (try simp only [Act.put, nA, nB, nC])
    clear hHeld
    refine hK.out _ _ ?_ (fun hHeld => ?_)
    · exact ⟨HS.out.a, HS.out.b, HS.out.d⟩
    clear hK K
    (try simp only [Act.put, nA, nB, nC])
    first | (refine wpAnyM_take 7 (v := ?_) rfl (by kernel_rfl) (fun _ _ _ h => h) (Or.inl ⟨by rfl, ?_⟩) (by assumption) ?_; rotate_left; focus ((intro wx hSw; refine Eq.trans (run_op_eqlDl (.tmp 106) (.tmp 107) (by rfl) (by rfl) (by rfl)) ?_; with_reducible rfl))) | (refine wpAnyM_take 7 rfl (by kernel_rfl) (fun _ _ _ h => h) (Or.inr ⟨by rfl, rfl⟩) (by assumption) ?_)
    (try simp only [Act.put, nA, nB, nC])
    refine wpAnyM_take 8 (v := ?_) rfl (by kernel_rfl) (fun _ _ _ h => h) (Or.inl ⟨by rfl, ?_⟩) (by assumption) ?_
    rotate_left
    · (intro wx hSw; (try dsimp only at hSw); go_simp; (try with_reducible rfl))
    (try simp only [Act.put, nA, nB, nC])
    refine wpAnyM_one 9 rfl (by kernel_rfl) (fun K hK => ?_)
    go_simp
    refine hK.out _ _ (.inl (by kernel_rfl)) (fun _ => ?_)
    clear hK K
    (try simp only [Act.put, nA, nB, nC])
    refine wpAnyM_done (by kernel_rfl) ?_ _
    go_wp2_with fail
    go_ret
    exact ⟨rfl, HS.out.l.below⟩
  by_cases e1 : m = 1
  · subst e1
    obtain ⟨A1, hA1⟩ : ∃ x, jpS KE 7 (two2 t0 t1) 2 = x := ⟨_, rfl⟩
    obtain ⟨P1, hP1⟩ : ∃ x, stepF P (rtF 7 2) (rtQ 7 (fun _ => v) 2) = x := ⟨_, rfl⟩
    obtain ⟨h1, hh1⟩ : ∃ x, (jpH h0 KE 7 (two2 t0 t1) 2 || orB (rtB 7 (fun _ => v)) 2 || stepH P (rtF 7 2) (rtQ 7 (fun _ => v) 2)) = x := ⟨_, rfl⟩
    have tw := jp_twice KE (fr := 7) (n := 2) (two2 t0 t1) (by decide) (by decide)
    have C1 := fun (x : World) (k : x.cell? ⟨bc, 0, none⟩ = some (.bool h0)) (f : x.frozen? ⟨bc, 0, none⟩ = false) => hor_any ⟨bc, 0, none⟩ h0 KE P t0 t1 v x k f
    have C2 := fun (x : World) (k : x.cell? ⟨bc, 0, none⟩ = some (.bool h1)) (f : x.frozen? ⟨bc, 0, none⟩ = false) => hor_any ⟨bc, 0, none⟩ h1 A1 P1 t0 t1 v x k f
    rw [hA1, hP1, hh1] at C1
    rw [hA1] at tw
    rw [tw.1] at C2
    have TD := tw_told (D := mvD (keepF A1) 7 (two2 t0 t1)) (off := 7) (n := 2) 3 (by decide) tw.2
    obtain ⟨D1, hD1⟩ : ∃ x, midF (tdF dl0 3) 7 2 (mvD (keepF KE) 7 (two2 t0 t1)) = x := ⟨_, rfl⟩
    obtain ⟨D2, hD2⟩ : ∃ x, midF (tdF dl0 3) 7 2 (mvD (keepF A1) 7 (two2 t0 t1)) = x := ⟨_, rfl⟩
    obtain ⟨P2, hP2⟩ : ∃ x, stepF P1 (rtF 7 2) (rtQ 7 (fun _ => v) 2) = x := ⟨_, rfl⟩
    obtain ⟨h2, hh2⟩ : ∃ x, (jpH h1 A1 7 (two2 t0 t1) 2 || orB (rtB 7 (fun _ => v)) 2 || stepH P1 (rtF 7 2) (rtQ 7 (fun _ => v) 2)) = x := ⟨_, rfl⟩
    rw [hD1] at C1
    rw [hD2, hP2, hh2] at C2
    rw [hD2] at TD
    have K1 := Lib.hid C1
    have K2 := Lib.hid C2
    have TD := Lib.hid TD
    clear C1 C2 tw hA1 hP1 hh1 hD1 hD2 hP2 hh2
    go_upto_region 13 with fail
    have P0 := S4.out.l.s
    have P9 := S4.out.l.p
    have p0 := S4.out.l.t.cell (i := 0) (by decide)
    rw [ht0] at p0
    have p1 := S4.out.l.t.cell (i := 1) (by decide)
    rw [ht1] at p1
    refine wp_region_lit ?_
    refine wpList_val (v := ?_) rfl ?_ ?_
    rotate_left
    · (go_simp; (try (first | with_reducible rfl | (constructor <;> with_reducible rfl))))
    (try simp only [Act.put, nA, nB, nC])
    refine wpList_val (v := ?_) rfl ?_ ?_
    rotate_left
    · refine Eq.trans (run_load_row 27 (.tmp 5) (by rfl) (w.heap.size) (by rfl) _ _ _ _ (P0) Try.underlying27 rfl (ist.trans (by rw [arrv_size]))) ?_; with_reducible rfl
    (try simp only [Act.put, nA, nB, nC])
    refine wpList_val (v := ?_) rfl ?_ ?_
    rotate_left
    · refine Eq.trans (run_load_row 30 (.tmp 6) (by rfl) (w.heap.size + 1) (by rfl) _ _ _ _ (P9) Try.underlying30 rfl (icov.trans (by rw [arrv_size]))) ?_; with_reducible rfl
    (try simp only [Act.put, nA, nB, nC])
    refine wpList_val (v := ?_) rfl ?_ ?_
    rotate_left
    · (go_simp; (try (first | with_reducible rfl | (constructor <;> with_reducible rfl))))
    (try simp only [Act.put, nA, nB, nC])
    refine wpList_val (v := ?_) rfl ?_ ?_
    rotate_left
    · (go_simp; (try (first | with_reducible rfl | (constructor <;> with_reducible rfl))))
    (try simp only [Act.put, nA, nB, nC])
    refine wpList_val (v := ?_) rfl ?_ ?_
    rotate_left
    · (go_simp; (try (first | with_reducible rfl | (constructor <;> with_reducible rfl))))
    (try simp only [Act.put, nA, nB, nC])
    refine wpList_val (v := ?_) rfl ?_ ?_
    rotate_left
    · (go_simp; (try (first | with_reducible rfl | (constructor <;> with_reducible rfl))))
    (try simp only [Act.put, nA, nB, nC])
    refine wpList_val (v := ?_) rfl ?_ ?_
    rotate_left
    · (go_simp; (try (first | with_reducible rfl | (constructor <;> with_reducible rfl))))
    (try simp only [Act.put, nA, nB, nC])
    refine wpList_step (fun K hK => ?_)
    go_simp
    (refine (K1.out _ S4.out.l.fl.cell S4.out.l.fl.free).mono ?_); rintro e v0 ⟨rfl, hu⟩; have HU := Lib.hid (S4.out.upd' hu); clear S4 hu P0 P9 p0 p1; have S4 := HU; clear HU
    (try dsimp only)
    (try simp only [Act.put, nA, nB, nC])
    refine hK _ _ ?_
    clear hK K
    refine wpList_val (v := ?_) rfl ?_ ?_
    rotate_left
    · (go_simp; (try (first | with_reducible rfl | (constructor <;> with_reducible rfl))))
    (try simp only [Act.put, nA, nB, nC])
    refine wpList_val (v := ?_) rfl ?_ ?_
    rotate_left
    · (go_simp; (try (first | with_reducible rfl | (constructor <;> with_reducible rfl))))
    (try simp only [Act.put, nA, nB, nC])
    refine wpList_val (v := ?_) rfl ?_ ?_
    rotate_left
    · (go_simp; (try (first | with_reducible rfl | (constructor <;> with_reducible rfl))))
    (try simp only [Act.put, nA, nB, nC])
    refine wpList_val (v := ?_) rfl ?_ ?_
    rotate_left
    · (go_simp; (try (first | with_reducible rfl | (constructor <;> with_reducible rfl))))
    (try simp only [Act.put, nA, nB, nC])
    refine wpList_done (w' := ?_) rfl ?_ ?_
    rotate_left
    · (refine Eq.trans (run_store_row 27 (.tmp 12) (.tmp 61) (by rfl) ab (by rfl) (by rfl) S4.out.a (ist.trans rfl)) ?_; with_reducible rfl)
    (try simp only [Act.put, nA, nB, nC])
    refine wpList_done (w' := ?_) rfl ?_ ?_
    rotate_left
    · (refine Eq.trans (run_store_row 30 (.tmp 6) (.tmp 62) (by rfl) (w.heap.size + 1) (by rfl) (by rfl) (S4.out.rowA A1).l.p (icov.trans rfl)) ?_; with_reducible rfl)
    (try simp only [Act.put, nA, nB, nC])
    refine wpList_nil ?_
    have HU := Lib.hid ((S4.out.rowA A1).rowP P1)
    generalize (v0.setRow ab (arrv 24 A1)).setRow (w.heap.size + 1) (arrv 300 P1) = V0 at *
    clear S4
    have S4 := HU
    clear HU
    go_upto_region 14 with fail
    have P0 := S4.out.a
    have P9 := S4.out.l.p
    have p0 := S4.out.l.t.cell (i := 0) (by decide)
    rw [ht0] at p0
    have p1 := S4.out.l.t.cell (i := 1) (by decide)
    rw [ht1] at p1
    refine wp_region_lit ?_
    refine wpList_val (v := ?_) rfl ?_ ?_
    rotate_left
    · (go_simp; (try (first | with_reducible rfl | (constructor <;> with_reducible rfl))))
    (try simp only [Act.put, nA, nB, nC])
    refine wpList_val (v := ?_) rfl ?_ ?_
    rotate_left
    · refine Eq.trans (run_load_row 27 (.tmp 12) (by rfl) (ab) (by rfl) _ _ _ _ (P0) Try.underlying27 rfl (ist.trans (by rw [arrv_size]))) ?_; with_reducible rfl
    (try simp only [Act.put, nA, nB, nC])
    refine wpList_val (v := ?_) rfl ?_ ?_
    rotate_left
    · refine Eq.trans (run_load_row 30 (.tmp 6) (by rfl) (w.heap.size + 1) (by rfl) _ _ _ _ (P9) Try.underlying30 rfl (icov.trans (by rw [arrv_size]))) ?_; with_reducible rfl
    (try simp only [Act.put, nA, nB, nC])
    refine wpList_val (v := ?_) rfl ?_ ?_
    rotate_left
    · (go_simp; (try (first | with_reducible rfl | (constructor <;> with_reducible rfl))))
    (try simp only [Act.put, nA, nB, nC])
    refine wpList_val (v := ?_) rfl ?_ ?_
    rotate_left
    · (go_simp; (try (first | with_reducible rfl | (constructor <;> with_reducible rfl))))
    (try simp only [Act.put, nA, nB, nC])
    refine wpList_val (v := ?_) rfl ?_ ?_
    rotate_left
    · (go_simp; (try (first | with_reducible rfl | (constructor <;> with_reducible rfl))))
    (try simp only [Act.put, nA, nB, nC])
    refine wpList_val (v := ?_) rfl ?_ ?_
    rotate_left
    · (go_simp; (try (first | with_reducible rfl | (constructor <;> with_reducible rfl))))
    (try simp only [Act.put, nA, nB, nC])
    refine wpList_val (v := ?_) rfl ?_ ?_
    rotate_left
    · (go_simp; (try (first | with_reducible rfl | (constructor <;> with_reducible rfl))))
    (try simp only [Act.put, nA, nB, nC])
    refine wpList_step (fun K hK => ?_)
    go_simp
    (refine (K2.out _ S4.out.l.fl.cell S4.out.l.fl.free).mono ?_); rintro e v1 ⟨rfl, hu⟩; have HU := Lib.hid (S4.out.upd' hu); clear S4 hu P0 P9 p0 p1; have S4 := HU; clear HU
    (try dsimp only)
    (try simp only [Act.put, nA, nB, nC])
    refine hK _ _ ?_
    clear hK K
    refine wpList_val (v := ?_) rfl ?_ ?_
    rotate_left
    · (go_simp; (try (first | with_reducible rfl | (constructor <;> with_reducible rfl))))
    (try simp only [Act.put, nA, nB, nC])
    refine wpList_val (v := ?_) rfl ?_ ?_
    rotate_left
    · (go_simp; (try (first | with_reducible rfl | (constructor <;> with_reducible rfl))))
    (try simp only [Act.put, nA, nB, nC])
    refine wpList_val (v := ?_) rfl ?_ ?_
    rotate_left
    · (go_simp; (try (first | with_reducible rfl | (constructor <;> with_reducible rfl))))
    (try simp only [Act.put, nA, nB, nC])
    refine wpList_val (v := ?_) rfl ?_ ?_
    rotate_left
    · (go_simp; (try (first | with_reducible rfl | (constructor <;> with_reducible rfl))))
    (try simp only [Act.put, nA, nB, nC])
    refine wpList_done (w' := ?_) rfl ?_ ?_
    rotate_left
    · (refine Eq.trans (run_store_row 27 (.tmp 13) (.tmp 74) (by rfl) bb (by rfl) (by rfl) S4.out.b (ist.trans rfl)) ?_; with_reducible rfl)
    (try simp only [Act.put, nA, nB, nC])
    refine wpList_done (w' := ?_) rfl ?_ ?_
    rotate_left
    · (refine Eq.trans (run_store_row 38 (.tmp 14) (.tmp 76) (by rfl) db (by rfl) (by rfl) (S4.out.rowB A1).d (itd.trans rfl)) ?_; with_reducible rfl)
    (try simp only [Act.put, nA, nB, nC])
    refine wpList_nil ?_
    have HU := Lib.hid ((S4.out.rowB A1).rowD D2)
    generalize (v1.setRow bb (arrv 24 A1)).setRow db (arrv 11 D2) = V1 at *
    clear S4
    have S4 := HU
    clear HU
    go_upto_region 18 with fail
    have HS := Lib.hid (S4.out.down (Below.drew (Below.refl _ _)))
    have HE := Lib.hid (eqB_refl 24 A1)
    clear S4
    refine wp_region_M (fun w' => Blk w' ab 27 24 A1 ∧ Blk w' bb 27 24 A1 ∧ Blk w' db 38 11 D2) 9 (by kernel_rfl) ?_ (fun hHeld => ?_)
    · exact ⟨HS.out.a, HS.out.b, HS.out.d⟩
    refine wpAnyM_take 0 (v := ?_) rfl (by kernel_rfl) (fun _ _ _ h => h) (Or.inl ⟨by rfl, ?_⟩) (by assumption) ?_
    rotate_left
    · (intro wx hSw; refine Eq.trans (run_load_row 27 (.tmp 12) (by rfl) (ab) (by rfl) _ _ _ _ (hSw.1) Try.underlying27 rfl (ist.trans (by rw [arrv_size]))) ?_; with_reducible rfl)
    (try simp only [Act.put, nA, nB, nC])
    refine wpAnyM_take 1 (v := ?_) rfl (by kernel_rfl) (fun _ _ _ h => h) (Or.inl ⟨by rfl, ?_⟩) (by assumption) ?_
    rotate_left
    · (intro wx hSw; refine Eq.trans (run_load_row 27 (.tmp 13) (by rfl) (bb) (by rfl) _ _ _ _ (hSw.2.1) Try.underlying27 rfl (ist.trans (by rw [arrv_size]))) ?_; with_reducible rfl)
    (try simp only [Act.put, nA, nB, nC])
    refine wpAnyM_take 2 (v := ?_) rfl (by kernel_rfl) (fun _ _ _ h => h) (Or.inl ⟨by rfl, ?_⟩) (by assumption) ?_
    rotate_left
    · (intro wx hSw; refine Eq.trans (run_op_eqlVec Try.underlying27 (by kernel_rfl) (.tmp 101) (.tmp 102) (by rfl) (by rfl) (by rfl) HE.out) ?_; with_reducible rfl)
    (try simp only [Act.put, nA, nB, nC])
    refine wpAnyM_take 3 (v := ?_) rfl (by kernel_rfl) (fun _ _ _ h => h) (Or.inl ⟨by rfl, ?_⟩) (by assumption) ?_
    rotate_left
    · (intro wx hSw; (try dsimp only at hSw); go_simp; (try with_reducible rfl))
    (try simp only [Act.put, nA, nB, nC])
    first | (refine wpAnyM_take 4 (v := ?_) rfl (by kernel_rfl) (fun _ _ _ h => h) (Or.inl ⟨by rfl, ?_⟩) (by assumption) ?_; rotate_left; focus ((intro wx hSw; (try dsimp only at hSw); go_simp; (try with_reducible rfl)))) | (refine wpAnyM_take 4 rfl (by kernel_rfl) (fun _ _ _ h => h) (Or.inr ⟨by rfl, rfl⟩) (by assumption) ?_)
    (try simp only [Act.put, nA, nB, nC])
    first | (refine wpAnyM_take 5 (v := ?_) rfl (by kernel_rfl) (fun _ _ _ h => h) (Or.inl ⟨by rfl, ?_⟩) (by assumption) ?_; rotate_left; focus ((intro wx hSw; refine Eq.trans (run_load_sub 36 (.tmp 105) (by rfl) db 0 10 (by rfl) hSw.2.2 (by decide) _ Try.underlying36 rfl idl) ?_; rw [TD.out]))) | (refine wpAnyM_take 5 rfl (by kernel_rfl) (fun _ _ _ h => h) (Or.inr ⟨by rfl, rfl⟩) (by assumption) ?_)
    (try simp only [Act.put, nA, nB, nC])
    refine wpAnyM_oneS 6 rfl (by kernel_rfl) (fun K hK => ?_)
    go_simp
    (refine (nothing_any _).mono ?_); rintro e u1 ⟨rfl, hb⟩; have HU := Lib.hid (HS.out.down hb); clear HS hb; have HS := HU; clear HU
    (try dsimp only)
    (try simp only [Act.put, nA, nB, nC])
    clear hHeld
    refine hK.out _ _ ?_ (fun hHeld => ?_)
    · exact ⟨HS.out.a, HS.out.b, HS.out.d⟩
    clear hK K
    (try simp only [Act.put, nA, nB, nC])
    first | (refine wpAnyM_take 7 (v := ?_) rfl (by kernel_rfl) (fun _ _ _ h => h) (Or.inl ⟨by rfl, ?_⟩) (by assumption) ?_; rotate_left; focus ((intro wx hSw; refine Eq.trans (run_op_eqlDl (.tmp 106) (.tmp 107) (by rfl) (by rfl) (by rfl)) ?_; with_reducible rfl))) | (refine wpAnyM_take 7 rfl (by kernel_rfl) (fun _ _ _ h => h) (Or.inr ⟨by rfl, rfl⟩) (by assumption) ?_)
    (try simp only [Act.put, nA, nB, nC])
    refine wpAnyM_take 8 (v := ?_) rfl (by kernel_rfl) (fun _ _ _ h => h) (Or.inl ⟨by rfl, ?_⟩) (by assumption) ?_
    rotate_left
    · (intro wx hSw; (try dsimp only at hSw); go_simp; (try with_reducible rfl))
    (try simp only [Act.put, nA, nB, nC])
    refine wpAnyM_one 9 rfl (by kernel_rfl) (fun K hK => ?_)
    go_simp
    refine hK.out _ _ (.inl (by kernel_rfl)) (fun _ => ?_)
    clear hK K
    (try simp only [Act.put, nA, nB, nC])
    refine wpAnyM_done (by kernel_rfl) ?_ _
    go_wp2_with fail
    go_ret
    exact ⟨rfl, HS.out.l.below⟩
  by_cases e2 : m = 2
  · subst e2
    obtain ⟨A1, hA1⟩ : ∃ x, jpS KE 9 (fun _ => t2) 1 = x := ⟨_, rfl⟩
    obtain ⟨P1, hP1⟩ : ∃ x, stepF P (rtF 9 1) (rtQ 9 (fun _ => v) 1) = x := ⟨_, rfl⟩
    obtain ⟨h1, hh1⟩ : ∃ x, (jpH h0 KE 9 (fun _ => t2) 1 || orB (rtB 9 (fun _ => v)) 1 || stepH P (rtF 9 1) (rtQ 9 (fun _ => v) 1)) = x := ⟨_, rfl⟩
    have tw := jp_twice KE (fr := 9) (n := 1) (fun _ => t2) (by decide) (by decide)
    have C1 := fun (x : World) (k : x.cell? ⟨bc, 0, none⟩ = some (.bool h0)) (f : x.frozen? ⟨bc, 0, none⟩ = false) => hgt_any ⟨bc, 0, none⟩ h0 KE P t2 v x k f
    have C2 := fun (x : World) (k : x.cell? ⟨bc, 0, none⟩ = some (.bool h1)) (f : x.frozen? ⟨bc, 0, none⟩ = false) => hgt_any ⟨bc, 0, none⟩ h1 A1 P1 t2 v x k f
    rw [hA1, hP1, hh1] at C1
    rw [hA1] at tw
    rw [tw.1] at C2
    have TD := tw_told (D := mvD (keepF A1) 9 (fun _ => t2)) (off := 9) (n := 1) 4 (by decide) tw.2
    obtain ⟨D1, hD1⟩ : ∃ x, midF (tdF dl0 4) 9 1 (mvD (keepF KE) 9 (fun _ => t2)) = x := ⟨_, rfl⟩
    obtain ⟨D2, hD2⟩ : ∃ x, midF (tdF dl0 4) 9 1 (mvD (keepF A1) 9 (fun _ => t2)) = x := ⟨_, rfl⟩
    obtain ⟨P2, hP2⟩ : ∃ x, stepF P1 (rtF 9 1) (rtQ 9 (fun _ => v) 1) = x := ⟨_, rfl⟩
    obtain ⟨h2, hh2⟩ : ∃ x, (jpH h1 A1 9 (fun _ => t2) 1 || orB (rtB 9 (fun _ => v)) 1 || stepH P1 (rtF 9 1) (rtQ 9 (fun _ => v) 1)) = x := ⟨_, rfl⟩
    rw [hD1] at C1
    rw [hD2, hP2, hh2] at C2
    rw [hD2] at TD
    have K1 := Lib.hid C1
    have K2 := Lib.hid C2
    have TD := Lib.hid TD
    clear C1 C2 tw hA1 hP1 hh1 hD1 hD2 hP2 hh2
    go_upto_region 16 with fail
    have P0 := S4.out.l.s
    have P9 := S4.out.l.p
    have p2 := S4.out.l.t.cell (i := 2) (by decide)
    rw [ht2] at p2
    refine wp_region_lit ?_
    refine wpList_val (v := ?_) rfl ?_ ?_
    rotate_left
    · (go_simp; (try (first | with_reducible rfl | (constructor <;> with_reducible rfl))))
    (try simp only [Act.put, nA, nB, nC])
    refine wpList_val (v := ?_) rfl ?_ ?_
    rotate_left
    · refine Eq.trans (run_load_row 27 (.tmp 5) (by rfl) (w.heap.size) (by rfl) _ _ _ _ (P0) Try.underlying27 rfl (ist.trans (by rw [arrv_size]))) ?_; with_reducible rfl
    (try simp only [Act.put, nA, nB, nC])
    refine wpList_val (v := ?_) rfl ?_ ?_
    rotate_left
    · refine Eq.trans (run_load_row 30 (.tmp 6) (by rfl) (w.heap.size + 1) (by rfl) _ _ _ _ (P9) Try.underlying30 rfl (icov.trans (by rw [arrv_size]))) ?_; with_reducible rfl
    (try simp only [Act.put, nA, nB, nC])
    refine wpList_val (v := ?_) rfl ?_ ?_
    rotate_left
    · (go_simp; (try (first | with_reducible rfl | (constructor <;> with_reducible rfl))))
    (try simp only [Act.put, nA, nB, nC])
    refine wpList_val (v := ?_) rfl ?_ ?_
    rotate_left
    · (go_simp; (try (first | with_reducible rfl | (constructor <;> with_reducible rfl))))
    (try simp only [Act.put, nA, nB, nC])
    refine wpList_val (v := ?_) rfl ?_ ?_
    rotate_left
    · (go_simp; (try (first | with_reducible rfl | (constructor <;> with_reducible rfl))))
    (try simp only [Act.put, nA, nB, nC])
    refine wpList_step (fun K hK => ?_)
    go_simp
    (refine (K1.out _ S4.out.l.fl.cell S4.out.l.fl.free).mono ?_); rintro e v0 ⟨rfl, hu⟩; have HU := Lib.hid (S4.out.upd' hu); clear S4 hu P0 P9 p2; have S4 := HU; clear HU
    (try dsimp only)
    (try simp only [Act.put, nA, nB, nC])
    refine hK _ _ ?_
    clear hK K
    refine wpList_val (v := ?_) rfl ?_ ?_
    rotate_left
    · (go_simp; (try (first | with_reducible rfl | (constructor <;> with_reducible rfl))))
    (try simp only [Act.put, nA, nB, nC])
    refine wpList_val (v := ?_) rfl ?_ ?_
    rotate_left
    · (go_simp; (try (first | with_reducible rfl | (constructor <;> with_reducible rfl))))
    (try simp only [Act.put, nA, nB, nC])
    refine wpList_val (v := ?_) rfl ?_ ?_
    rotate_left
    · (go_simp; (try (first | with_reducible rfl | (constructor <;> with_reducible rfl))))
    (try simp only [Act.put, nA, nB, nC])
    refine wpList_val (v := ?_) rfl ?_ ?_
    rotate_left
    · (go_simp; (try (first | with_reducible rfl | (constructor <;> with_reducible rfl))))
    (try simp only [Act.put, nA, nB, nC])
    refine wpList_done (w' := ?_) rfl ?_ ?_
    rotate_left
    · (refine Eq.trans (run_store_row 27 (.tmp 12) (.tmp 87) (by rfl) ab (by rfl) (by rfl) S4.out.a (ist.trans rfl)) ?_; with_reducible rfl)
    (try simp only [Act.put, nA, nB, nC])
    refine wpList_done (w' := ?_) rfl ?_ ?_
    rotate_left
    · (refine Eq.trans (run_store_row 30 (.tmp 6) (.tmp 88) (by rfl) (w.heap.size + 1) (by rfl) (by rfl) (S4.out.rowA A1).l.p (icov.trans rfl)) ?_; with_reducible rfl)
    (try simp only [Act.put, nA, nB, nC])
    refine wpList_nil ?_
    have HU := Lib.hid ((S4.out.rowA A1).rowP P1)
    generalize (v0.setRow ab (arrv 24 A1)).setRow (w.heap.size + 1) (arrv 300 P1) = V0 at *
    clear S4
    have S4 := HU
    clear HU
    go_upto_region 17 with fail
    have P0 := S4.out.a
    have P9 := S4.out.l.p
    have p2 := S4.out.l.t.cell (i := 2) (by decide)
    rw [ht2] at p2
    refine wp_region_lit ?_
    refine wpList_val (v := ?_) rfl ?_ ?_
    rotate_left
    · (go_simp; (try (first | with_reducible rfl | (constructor <;> with_reducible rfl))))
    (try simp only [Act.put, nA, nB, nC])
    refine wpList_val (v := ?_) rfl ?_ ?_
    rotate_left
    · refine Eq.trans (run_load_row 27 (.tmp 12) (by rfl) (ab) (by rfl) _ _ _ _ (P0) Try.underlying27 rfl (ist.trans (by rw [arrv_size]))) ?_; with_reducible rfl
    (try simp only [Act.put, nA, nB, nC])
    refine wpList_val (v := ?_) rfl ?_ ?_
    rotate_left
    · refine Eq.trans (run_load_row 30 (.tmp 6) (by rfl) (w.heap.size + 1) (by rfl) _ _ _ _ (P9) Try.underlying30 rfl (icov.trans (by rw [arrv_size]))) ?_; with_reducible rfl
    (try simp only [Act.put, nA, nB, nC])
    refine wpList_val (v := ?_) rfl ?_ ?_
    rotate_left
    · (go_simp; (try (first | with_reducible rfl | (constructor <;> with_reducible rfl))))
    (try simp only [Act.put, nA, nB, nC])
    refine wpList_val (v := ?_) rfl ?_ ?_
    rotate_left
    · (go_simp; (try (first | with_reducible rfl | (constructor <;> with_reducible rfl))))
    (try simp only [Act.put, nA, nB, nC])
    refine wpList_val (v := ?_) rfl ?_ ?_
    rotate_left
    · (go_simp; (try (first | with_reducible rfl | (constructor <;> with_reducible rfl))))
    (try simp only [Act.put, nA, nB, nC])
    refine wpList_step (fun K hK => ?_)
    go_simp
    (refine (K2.out _ S4.out.l.fl.cell S4.out.l.fl.free).mono ?_); rintro e v1 ⟨rfl, hu⟩; have HU := Lib.hid (S4.out.upd' hu); clear S4 hu P0 P9 p2; have S4 := HU; clear HU
    (try dsimp only)
    (try simp only [Act.put, nA, nB, nC])
    refine hK _ _ ?_
    clear hK K
    refine wpList_val (v := ?_) rfl ?_ ?_
    rotate_left
    · (go_simp; (try (first | with_reducible rfl | (constructor <;> with_reducible rfl))))
    (try simp only [Act.put, nA, nB, nC])
    refine wpList_val (v := ?_) rfl ?_ ?_
    rotate_left
    · (go_simp; (try (first | with_reducible rfl | (constructor <;> with_reducible rfl))))
    (try simp only [Act.put, nA, nB, nC])
    refine wpList_val (v := ?_) rfl ?_ ?_
    rotate_left
    · (go_simp; (try (first | with_reducible rfl | (constructor <;> with_reducible rfl))))
    (try simp only [Act.put, nA, nB, nC])
    refine wpList_val (v := ?_) rfl ?_ ?_
    rotate_left
    · (go_simp; (try (first | with_reducible rfl | (constructor <;> with_reducible rfl))))
    (try simp only [Act.put, nA, nB, nC])
    refine wpList_done (w' := ?_) rfl ?_ ?_
    rotate_left
    · (refine Eq.trans (run_store_row 27 (.tmp 13) (.tmp 98) (by rfl) bb (by rfl) (by rfl) S4.out.b (ist.trans rfl)) ?_; with_reducible rfl)
    (try simp only [Act.put, nA, nB, nC])
    refine wpList_done (w' := ?_) rfl ?_ ?_
    rotate_left
    · (refine Eq.trans (run_store_row 38 (.tmp 14) (.tmp 100) (by rfl) db (by rfl) (by rfl) (S4.out.rowB A1).d (itd.trans rfl)) ?_; with_reducible rfl)
    (try simp only [Act.put, nA, nB, nC])
    refine wpList_nil ?_
    have HU := Lib.hid ((S4.out.rowB A1).rowD D2)
    generalize (v1.setRow bb (arrv 24 A1)).setRow db (arrv 11 D2) = V1 at *
    clear S4
    have S4 := HU
    clear HU
    go_upto_region 18 with fail
    have HS := Lib.hid (S4.out.down (Below.drew (Below.refl _ _)))
    have HE := Lib.hid (eqB_refl 24 A1)
    clear S4
    refine wp_region_M (fun w' => Blk w' ab 27 24 A1 ∧ Blk w' bb 27 24 A1 ∧ Blk w' db 38 11 D2) 9 (by kernel_rfl) ?_ (fun hHeld => ?_)
    · exact ⟨HS.out.a, HS.out.b, HS.out.d⟩
    refine wpAnyM_take 0 (v := ?_) rfl (by kernel_rfl) (fun _ _ _ h => h) (Or.inl ⟨by rfl, ?_⟩) (by assumption) ?_
    rotate_left
    · (intro wx hSw; refine Eq.trans (run_load_row 27 (.tmp 12) (by rfl) (ab) (by rfl) _ _ _ _ (hSw.1) Try.underlying27 rfl (ist.trans (by rw [arrv_size]))) ?_; with_reducible rfl)
    (try simp only [Act.put, nA, nB, nC])
    refine wpAnyM_take 1 (v := ?_) rfl (by kernel_rfl) (fun _ _ _ h => h) (Or.inl ⟨by rfl, ?_⟩) (by assumption) ?_
    rotate_left
    · (intro wx hSw; refine Eq.trans (run_load_row 27 (.tmp 13) (by rfl) (bb) (by rfl) _ _ _ _ (hSw.2.1) Try.underlying27 rfl (ist.trans (by rw [arrv_size]))) ?_; with_reducible rfl)
    (try simp only [Act.put, nA, nB, nC])
    refine wpAnyM_take 2 (v := ?_) rfl (by kernel_rfl) (fun _ _ _ h => h) (Or.inl ⟨by rfl, ?_⟩) (by assumption) ?_
    rotate_left
    · (intro wx hSw; refine Eq.trans (run_op_eqlVec Try.underlying27 (by kernel_rfl) (.tmp 101) (.tmp 102) (by rfl) (by rfl) (by rfl) HE.out) ?_; with_reducible rfl)
    (try simp only [Act.put, nA, nB, nC])
    refine wpAnyM_take 3 (v := ?_) rfl (by kernel_rfl) (fun _ _ _ h => h) (Or.inl ⟨by rfl, ?_⟩) (by assumption) ?_
    rotate_left
    · (intro wx hSw; (try dsimp only at hSw); go_simp; (try with_reducible rfl))
    (try simp only [Act.put, nA, nB, nC])
    first | (refine wpAnyM_take 4 (v := ?_) rfl (by kernel_rfl) (fun _ _ _ h => h) (Or.inl ⟨by rfl, ?_⟩) (by assumption) ?_; rotate_left; focus ((intro wx hSw; (try dsimp only at hSw); go_simp; (try with_reducible rfl)))) | (refine wpAnyM_take 4 rfl (by kernel_rfl) (fun _ _ _ h => h) (Or.inr ⟨by rfl, rfl⟩) (by assumption) ?_)
    (try simp only [Act.put, nA, nB, nC])
    first | (refine wpAnyM_take 5 (v := ?_) rfl (by kernel_rfl) (fun _ _ _ h => h) (Or.inl ⟨by rfl, ?_⟩) (by assumption) ?_; rotate_left; focus ((intro wx hSw; refine Eq.trans (run_load_sub 36 (.tmp 105) (by rfl) db 0 10 (by rfl) hSw.2.2 (by decide) _ Try.underlying36 rfl idl) ?_; rw [TD.out]))) | (refine wpAnyM_take 5 rfl (by kernel_rfl) (fun _ _ _ h => h) (Or.inr ⟨by rfl, rfl⟩) (by assumption) ?_)
    (try simp only [Act.put, nA, nB, nC])
    refine wpAnyM_oneS 6 rfl (by kernel_rfl) (fun K hK => ?_)
    go_simp
    (refine (nothing_any _).mono ?_); rintro e u1 ⟨rfl, hb⟩; have HU := Lib.hid (HS.out.down hb); clear HS hb; have HS := HU; clear HU
    (try dsimp only)
    (try simp only [Act.put, nA, nB, nC])
    clear hHeld
    refine hK.out _ _ ?_ (fun hHeld => ?_)
    · exact ⟨HS.out.a, HS.out.b, HS.out.d⟩
    clear hK K
    (try simp only [Act.put, nA, nB, nC])
    first | (refine wpAnyM_take 7 (v := ?_) rfl (by kernel_rfl) (fun _ _ _ h => h) (Or.inl ⟨by rfl, ?_⟩) (by assumption) ?_; rotate_left; focus ((intro wx hSw; refine Eq.trans (run_op_eqlDl (.tmp 106) (.tmp 107) (by rfl) (by rfl) (by rfl)) ?_; with_reducible rfl))) | (refine wpAnyM_take 7 rfl (by kernel_rfl) (fun _ _ _ h => h) (Or.inr ⟨by rfl, rfl⟩) (by assumption) ?_)
    (try simp only [Act.put, nA, nB, nC])
    refine wpAnyM_take 8 (v := ?_) rfl (by kernel_rfl) (fun _ _ _ h => h) (Or.inl ⟨by rfl, ?_⟩) (by assumption) ?_
    rotate_left
    · (intro wx hSw; (try dsimp only at hSw); go_simp; (try with_reducible rfl))
    (try simp only [Act.put, nA, nB, nC])
    refine wpAnyM_one 9 rfl (by kernel_rfl) (fun K hK => ?_)
    go_simp
    refine hK.out _ _ (.inl (by kernel_rfl)) (fun _ => ?_)
    clear hK K
    (try simp only [Act.put, nA, nB, nC])
    refine wpAnyM_done (by kernel_rfl) ?_ _
    go_wp2_with fail
    go_ret
    exact ⟨rfl, HS.out.l.below⟩
  have d0 : decide (m = 0) = false := by simpa using e0
  have d1 : decide (m = 1) = false := by simpa using e1
  have d2 : decide (m = 2) = false := by simpa using e2
  have q0 : (m == 0) = false := by simpa using e0
  have q1 : (m == 1) = false := by simpa using e1
  have q2 : (m == 2) = false := by simpa using e2
  go_wp2_with fail
  go_ret
  exact ⟨rfl, S4.out.l.below⟩
end Go.Proofs.Ytgfklheepkgedaa
