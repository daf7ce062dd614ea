/- The walk of FuseMany. -/
import Derived.Test.YtpbgglkopfjagaaQ13
import Derived.Test.YtpbgglkopfjagaaQ11
import Derived.Deep.QuietTactic
import Derived.BigQuiet
namespace Go.Proofs.Ytpbgglkopfjagaa
open Go.RowKit
set_option maxRecDepth 100000
/-- The arguments' blocks and the flag. -/
structure MnA (bc : Nat) (x : Bool) (S P : Nat → Int) (w wr : World) : Prop where
  below : Below w.heap.size w wr
  flg : Flg wr bc x
  sB : Blk wr w.heap.size 23 24 S
  pB : Blk wr (w.heap.size + 1) 26 300 P
  ord : w.heap.size + 1 < bc
section
variable {bc : Nat} {x y : Bool} {S P : Nat → Int} {w wr w' : World}
theorem MnA.down (a : MnA bc x S P w wr) (u : Below wr.heap.size wr w') : MnA bc x S P w w' := ⟨Below.after a.below u, a.flg.below u, a.sB.below u, a.pB.below u, a.ord⟩
theorem MnA.alloc (a : MnA bc x S P w wr) (o : Obj) : MnA bc x S P w (wr.alloc o) := a.down ((Below.refl _ _).alloc (Nat.le_refl _) o)
theorem MnA.drew (a : MnA bc x S P w wr) : MnA bc x S P w wr.drew := ⟨a.below.drew, a.flg, a.sB, a.pB, a.ord⟩
theorem MnA.upd (a : MnA bc x S P w wr) (u : Upd ⟨bc, 0, none⟩ y wr w') : MnA bc y S P w w' := by
  have h := a.ord
  exact ⟨own_upd a.below (by simp; omega) u, a.flg.hit u, a.sB.upd u (by simp; omega), a.pB.upd u (by simp; omega), h⟩
theorem MnA.row (a : MnA bc x S P w wr) {b : Nat} (hb : bc < b) (cs : Array Value) : MnA bc x S P w (wr.setRow b cs) := by
  have h := a.ord
  exact ⟨below_row a.below (by omega) _, a.flg.row _ (by omega), a.sB.setRow_other _ (by omega), a.pB.setRow_other _ (by omega), h⟩
theorem mn_st (a : MnA bc x S P w wr) (b : Nat) (hb : wr.heap.size = b) : Blk (wr.alloc (.cells #[.int .i64 0, .int .i64 0, .int .i64 0, .int .i64 0, .int .i64 0, .int .i64 0, .int .i64 0, .int .i64 0, .int .i64 0, .int .i64 0, .int .i64 0, .int .i64 0, .int .i64 0, .int .i64 0, .int .i64 0, .int .i64 0, .int .i64 0, .int .i64 0, .int .i64 0, .int .i64 0, .int .i64 0, .int .i64 0, .int .i64 0, .int .i64 0] 23)) b 23 24 (fun _ => 0) ∧ bc < b := by
  subst hb
  rw [zvec24]; exact ⟨Blk.new wr _ 24 _, a.flg.lt⟩
theorem mn_cov (a : MnA bc x S P w wr) (b : Nat) (hb : wr.heap.size = b) : Blk (wr.alloc (.cells Try.zeroCells26 26)) b 26 300 (fun _ => 0) ∧ bc < b := by
  subst hb
  rw [zcov]; exact ⟨Blk.new wr _ _ _, a.flg.lt⟩
/-- What was told, above a block. -/
def SlcG (w : World) (lo : Nat) (p : Option Addr) (n : Nat) (t : Nat → Bool) (y s : Nat → Int) : Prop := ∀ k, k < n → ∃ b, p = some ⟨b, 0, none⟩ ∧ lo < b ∧ w.cell? ⟨b, k * 3, none⟩ = some (.bool (t k)) ∧ w.cell? ⟨b, k * 3 + 1, none⟩ = some (.int .i64 (y k)) ∧ w.cell? ⟨b, k * 3 + 2, none⟩ = some (.int .i64 (s k))
theorem OwnR.toldG {w : World} {B lo : Nat} {v : Value} {n : Nat} {t : Nat → Bool} {y s : Nat → Int} (h : OwnR w B v n t y s) (hB : lo < B) : ∃ p cp, v = .slice p n cp ∧ SlcG w lo p n t y s := by
  rcases h.slc with ⟨rfl, rfl⟩ | ⟨g, cp, rfl, hg, _, hc⟩
  · exact ⟨none, 0, rfl, fun k hk => by omega⟩
  · refine ⟨_, cp, rfl, fun k hk => ⟨g, rfl, by omega, ?_⟩⟩
    obtain ⟨a, b, c⟩ := rcells_get (t := t) (y := y) (s := s) hk
    exact ⟨hc _ _ a, hc _ _ b, hc _ _ c⟩
theorem cell_heap {w w' : World} {b o : Nat} (h : w'.heap[b]? = w.heap[b]?) : w'.cell? ⟨b, o, none⟩ = w.cell? ⟨b, o, none⟩ := by
  unfold World.cell?; simp only [h]
theorem SlcG.kept {w w' : World} {lo : Nat} {p : Option Addr} {n : Nat} {t : Nat → Bool} {y s : Nat → Int} (h : SlcG w lo p n t y s) (hk : ∀ b, lo < b → b < w.heap.size → w'.heap[b]? = w.heap[b]?) : SlcG w' lo p n t y s := fun k hkn => by
  obtain ⟨b, hp, hb, h0, h1, h2⟩ := h k hkn
  have e := hk b hb (World.block_lt_of_cell? _ _ h0)
  exact ⟨b, hp, hb, (cell_heap e).trans h0, (cell_heap e).trans h1, (cell_heap e).trans h2⟩
theorem SlcG.slcR {w : World} {lo : Nat} {p : Option Addr} {n : Nat} {t : Nat → Bool} {y s : Nat → Int} (h : SlcG w lo p n t y s) : SlcR w p n t y s := fun k hk => by
  obtain ⟨b, hp, _, h0, h1, h2⟩ := h k hk
  exact ⟨b, hp, h0, h1, h2⟩
theorem slc_from {w : World} {q : Option Addr} {n : Nat} {O : Nat → Int} (h : Slc w q n O) (hn : 0 < n) : ∃ pb po, q = some ⟨pb, po, none⟩ ∧ ∀ i, i < n → w.cell? ⟨pb, po + i, none⟩ = some (.int .i64 (O i)) := by
  obtain ⟨b, o, rfl, _⟩ := h 0 hn
  refine ⟨b, o, rfl, fun i hi => ?_⟩
  obtain ⟨b', o', e, hc⟩ := h i hi
  injection e with e
  injection e with e1 e2
  subst e1 e2
  exact hc
end
/-- In the loop: beside, the second flag; what lies between the flags is as it was ahead of the loop. -/
structure MnL (bc bd : Nat) (x : Bool) (S P : Nat → Int) (y : Bool) (W8 w wr : World) : Prop where
  a : MnA bc x S P w wr
  fd : Flg wr bd y
  hold : ∀ b, bc < b → b < bd → wr.heap[b]? = W8.heap[b]?
  o : bc < bd
section
variable {bc bd : Nat} {x y z : Bool} {S P : Nat → Int} {W8 w wr w' : World}
theorem MnL.down (a : MnL bc bd x S P y W8 w wr) (u : Below wr.heap.size wr w') : MnL bc bd x S P y W8 w w' :=
  ⟨a.a.down u, a.fd.below u, fun b h1 h2 => (u.block b (by have := a.fd.lt; omega)).trans (a.hold b h1 h2), a.o⟩
theorem MnL.drew (a : MnL bc bd x S P y W8 w wr) : MnL bc bd x S P y W8 w wr.drew := ⟨a.a.drew, a.fd, a.hold, a.o⟩
theorem MnL.upd (a : MnL bc bd x S P y W8 w wr) (u : Upd ⟨bd, 0, none⟩ z wr w') : MnL bc bd x S P z W8 w w' := by
  have h := a.a.ord
  have h2 := a.o
  exact ⟨⟨own_upd a.a.below (by simp; omega) u, a.a.flg.upd u (by simp; omega), a.a.sB.upd u (by simp; omega), a.a.pB.upd u (by simp; omega), h⟩, a.fd.hit u, fun b h1 h2 => (u.block (by have := a.fd.lt; omega) (by simp; omega)).trans (a.hold b h1 h2), h2⟩
theorem MnL.rowS (a : MnL bc bd x S P y W8 w wr) (F : Nat → Int) : MnL bc bd x F P y W8 w (wr.setRow w.heap.size (arrv 24 F)) := by
  have h := a.a.ord
  have h2 := a.o
  exact ⟨⟨below_row a.a.below (Nat.le_refl _) _, a.a.flg.row _ (by omega), a.a.sB.setRow F, a.a.pB.setRow_other _ (by omega), h⟩, a.fd.row _ (by omega), fun b h1 h2 => (Go.setRow_other _ _ _ _ (by omega)).trans (a.hold b h1 h2), h2⟩
theorem MnL.rowP (a : MnL bc bd x S P y W8 w wr) (F : Nat → Int) : MnL bc bd x S F y W8 w (wr.setRow (w.heap.size + 1) (arrv 300 F)) := by
  have h := a.a.ord
  have h2 := a.o
  exact ⟨⟨below_row a.a.below (by omega) _, a.a.flg.row _ (by omega), a.a.sB.setRow_other _ (by omega), a.a.pB.setRow F, h⟩, a.fd.row _ (by omega), fun b h1 h2 => (Go.setRow_other _ _ _ _ (by omega)).trans (a.hold b h1 h2), h2⟩
theorem MnL.set (a : MnL bc bd x S P y W8 w wr) {b o : Nat} (hb : bd < b) (v : Value) : MnL bc bd x S P y W8 w (wr.setCell ⟨b, o, none⟩ v) := by
  have h := a.a.ord
  have h2 := a.o
  exact ⟨⟨a.a.below.setCell (by simp; omega) _, a.a.flg.other (by simp; omega) _, a.a.sB.other (by simp; omega) _, a.a.pB.other (by simp; omega) _, h⟩, a.fd.other (by simp; omega) _, fun k h1 h2 => (heap_setCell_other _ _ k v (by simp; omega)).trans (a.hold k h1 h2), h2⟩
end
section
variable {bc bd : Nat} {x y : Bool} {S P : Nat → Int} {wx w wr : World}
theorem MnL.blk (a : MnL bc bd x S P y wx w wr) {b T n : Nat} {f : Nat → Int} (h : Blk wx b T n f) (h1 : bc < b) (e : wx.heap.size = bd) : Blk wr b T n f := (a.hold b h1 (by have := h.lt; omega)).trans h
theorem MnL.told (a : MnL bc bd x S P y wx w wr) {p : Option Addr} {n : Nat} {t : Nat → Bool} {u s : Nat → Int} (h : SlcG wx bc p n t u s) (e : wx.heap.size = bd) : SlcG wr bc p n t u s := h.kept fun b h1 h2 => a.hold b h1 (by omega)
end
set_option maxHeartbeats 8000000 in
theorem many_long (S P : Nat → Int) (q : Option Addr) (n cp : Nat) (w : World) (hn : 6 < n) :
    Calls Try.prog 3 #[.agg (arrv 24 S), .agg (arrv 300 P), .slice q n cp] w fun e w' => e = .returned (.bool true) ∧ Below w.heap.size w w' := by
  have d1 : decide ((6 : Int) < (n : Int)) = true := by simp; omega
  go_enter Try.func3, Try.ntmps3
  have B0 := Lib.hid (show Below w.heap.size w ((w.alloc (.cells (arrv 24 S) 23)).alloc (.cells (arrv 300 P) 26)) by (repeat (first | with_reducible exact Below.refl _ _ | with_reducible apply Below.drew | (with_reducible refine below_drewN ?_ _) | (with_reducible refine Below.alloc ?_ (by (try simp) <;> omega) _) | (with_reducible refine Below.setCell ?_ (by (try simp) <;> omega) _))))
  go_wp2_with (go_at_call 5; (refine (awake18_any _).mono ?_); rintro e w1 ⟨rfl, hb1⟩; have B1 := Lib.hid (Below.after B0.out hb1); clear hb1)
  go_ret
  exact ⟨rfl, B1.out⟩
set_option maxHeartbeats 20000000 in
theorem many_walk (S P : Nat → Int) (q : Option Addr) (n cp : Nat) (O : Nat → Int) (w : World) (hn : n ≤ 6) (hL : Slc w q (27 * n) O) (hO : ∀ i, -9223372036854775808 ≤ O i ∧ O i ≤ 9223372036854775807) (hz : ∀ i, 27 * n ≤ i → O i = 0) :
    Calls Try.prog 3 #[.agg (arrv 24 S), .agg (arrv 300 P), .slice q n cp] w fun e w' => e = .returned (.bool true) ∧ Below w.heap.size w w' := by
  have d1 : decide ((6 : Int) < (n : Int)) = false := by simp; omega
  have HN := Lib.hid hn
  have HL := Lib.hid hL
  have HO := Lib.hid hO
  have HZ := Lib.hid hz
  clear hn hL hO hz
  go_enter Try.func3, Try.ntmps3
  obtain ⟨W0, hW0⟩ : ∃ x, (w.alloc (.cells (arrv 24 S) 23)).alloc (.cells (arrv 300 P) 26) = x := ⟨_, rfl⟩
  have S0 := Lib.hid (show Blk W0 w.heap.size 23 24 S by rw [← hW0]; exact (Blk.new w _ _ _).alloc _)
  have P0 := Lib.hid (show Blk W0 (w.heap.size + 1) 26 300 P by rw [← hW0]; exact Blk.new1 w _ _ _ _)
  have B0 := Lib.hid (show Below w.heap.size w W0 by rw [← hW0]; (repeat (first | with_reducible exact Below.refl _ _ | with_reducible apply Below.drew | (with_reducible refine below_drewN ?_ _) | (with_reducible refine Below.alloc ?_ (by (try simp) <;> omega) _) | (with_reducible refine Below.setCell ?_ (by (try simp) <;> omega) _))))
  go_upto_region 5 with (go_at_call 5; (refine (awake18_any _).mono ?_); rintro e w1 ⟨rfl, hb1⟩; have S1 := Lib.hid (S0.out.below hb1); have P1 := Lib.hid (P0.out.below hb1); have B1 := Lib.hid (Below.after B0.out hb1); clear hb1)
  have A2 := Lib.hid (MnA.mk (B1.out.alloc B1.out.size (.cells #[.bool false] 31)) (Flg.new w1 false) (S1.out.alloc _) (P1.out.alloc _) P1.out.lt)
  clear S0 P0 B0 hW0 S1 P1 B1
  go_upto_region 6 with fail
  obtain ⟨bc, hbc⟩ : ∃ x, w1.heap.size = x := ⟨_, rfl⟩
  generalize w1.alloc (.cells #[.bool false] 31) = W2 at *
  rw [hbc] at A2 ⊢
  clear hbc
  have AL := Lib.hid (many_all bc S P O n (by have := HN.out; omega) HO.out)
  obtain ⟨SN, hSN⟩ : ∃ x, (alN S P O n).1 = x := ⟨_, rfl⟩
  obtain ⟨PN, hPN⟩ : ∃ x, (alN S P O n).2 = x := ⟨_, rfl⟩
  obtain ⟨FN, hFN⟩ : ∃ x, alH S P O n = x := ⟨_, rfl⟩
  obtain ⟨TN, hTN⟩ : ∃ x, alT S P O = x := ⟨_, rfl⟩
  obtain ⟨YN, hYN⟩ : ∃ x, alY O = x := ⟨_, rfl⟩
  obtain ⟨VN, hVN⟩ : ∃ x, alV S P O = x := ⟨_, rfl⟩
  simp only [hSN, hPN, hFN, hTN, hYN, hVN] at AL
  have EN := Lib.hid (And.intro hSN (And.intro hPN (And.intro hFN (And.intro hTN (And.intro hYN hVN)))))
  clear hSN hPN hFN hTN hYN hVN
  have HS := Lib.hid A2.out.drew
  clear A2
  have n6 : n ≤ 1000 := by have := HN.out; omega
  go_cut [8, 9, 10] from 24 to 35 (fun s8 s9 s10 wx => ∃ b8 b9 p c2, s8 = .pointer (some ⟨b8, 0, none⟩) ∧ s9 = .pointer (some ⟨b9, 0, none⟩) ∧ s10 = .slice p n c2 ∧ Hid (MnA bc FN S P w wx ∧ (Blk wx b8 23 24 SN ∧ bc < b8) ∧ (Blk wx b9 26 300 PN ∧ bc < b9) ∧ SlcG wx bc p n TN YN VN))
  case first =>
    refine wp_region_M (fun w' => Blk w' w.heap.size 23 24 S ∧ Blk w' (w.heap.size + 1) 26 300 P) 15 (by kernel_rfl) ?_ (fun hHeld => ?_)
    · exact ⟨HS.out.sB, HS.out.pB⟩
    refine wpAnyM_take 0 (v := ?_) rfl (by kernel_rfl) (fun _ _ _ h => h) (Or.inl ⟨by rfl, ?_⟩) (by assumption) ?_
    rotate_left
    · (intro wx hSw; (try dsimp only at hSw); go_simp; (try with_reducible rfl))
    (try simp only [Act.put, List.setIfInBounds_toArray, List.set_cons_zero, List.set_cons_succ])
    refine wpAnyM_take 1 (v := ?_) rfl (by kernel_rfl) (fun _ _ _ h => h) (Or.inl ⟨by rfl, ?_⟩) (by assumption) ?_
    rotate_left
    · (intro wx hSw; refine Eq.trans (run_load_row 23 (.tmp 3) (by rfl) (w.heap.size) (by rfl) _ _ _ _ (hSw.1) Try.underlying23 rfl (ist.trans (by rw [arrv_size]))) ?_; with_reducible rfl)
    (try simp only [Act.put, List.setIfInBounds_toArray, List.set_cons_zero, List.set_cons_succ])
    refine wpAnyM_take 2 (v := ?_) rfl (by kernel_rfl) (fun _ _ _ h => h) (Or.inl ⟨by rfl, ?_⟩) (by assumption) ?_
    rotate_left
    · (intro wx hSw; refine Eq.trans (run_load_row 26 (.tmp 4) (by rfl) (w.heap.size + 1) (by rfl) _ _ _ _ (hSw.2) Try.underlying26 rfl (icov.trans (by rw [arrv_size]))) ?_; with_reducible rfl)
    (try simp only [Act.put, List.setIfInBounds_toArray, List.set_cons_zero, List.set_cons_succ])
    refine wpAnyM_take 4 (v := ?_) rfl (by kernel_rfl) (fun _ _ _ h => h) (Or.inl ⟨by rfl, ?_⟩) (by assumption) ?_
    rotate_left
    · (intro wx hSw; (try dsimp only at hSw); go_simp; (try with_reducible rfl))
    (try simp only [Act.put, List.setIfInBounds_toArray, List.set_cons_zero, List.set_cons_succ])
    refine wpAnyM_threeS 3 11 12 rfl rfl rfl (by kernel_rfl) (fun K hK => ?_) (fun K hK => ?_) (fun K hK => ?_)
    · refine if_pos_of (by rfl) (wp_bsl0_obs rfl ?_); have HS2 := Lib.hid (HS.out.alloc (.cells #[] 41)); clear HS; have HS := HS2; clear HS2; (try (have HA2 := Lib.hid (And.intro (HA.out.1.alloc (.cells #[] 41)) HA.out.2); clear HA; have HA := HA2; clear HA2)); (try (have HR2 := Lib.hid (And.intro (HR.out.1.alloc (.cells #[] 41)) HR.out.2); clear HR; have HR := HR2; clear HR2))
      clear hHeld
      refine hK.out _ _ ?_ (fun hHeld => ?_)
      · exact ⟨HS.out.sB, HS.out.pB⟩
      clear hK K
      (try simp only [Act.put, List.setIfInBounds_toArray, List.set_cons_zero, List.set_cons_succ])
      refine wpAnyM_threeS 5 11 12 rfl rfl rfl (by kernel_rfl) (fun K hK => ?_) (fun K hK => ?_) (fun K hK => ?_)
      · refine if_pos_of (by rfl) (wp_appAll_obs (.tmp 28) (.tmp 29) rfl _ q n cp O rfl rfl (HL.out.below HS.out.below) HZ.out n6 ?_); intro q2 cp2 w6 hb6 hm6; have HQ := Lib.hid hm6; have HS2 := Lib.hid (HS.out.down hb6); clear HS; have HS := HS2; clear HS2; (try (have HA2 := Lib.hid (And.intro (HA.out.1.below hb6) HA.out.2); clear HA; have HA := HA2; clear HA2)); (try (have HR2 := Lib.hid (And.intro (HR.out.1.below hb6) HR.out.2); clear HR; have HR := HR2; clear HR2)); clear hb6 hm6
        clear hHeld
        refine hK.out _ _ ?_ (fun hHeld => ?_)
        · exact ⟨HS.out.sB, HS.out.pB⟩
        clear hK K
        (try simp only [Act.put, List.setIfInBounds_toArray, List.set_cons_zero, List.set_cons_succ])
        refine wpAnyM_threeS 6 11 12 rfl rfl rfl (by kernel_rfl) (fun K hK => ?_) (fun K hK => ?_) (fun K hK => ?_)
        · go_simp
          (refine (AL.out _ HS.out.flg.cell HS.out.flg.free _ _ HQ.out).mono ?_); rintro e w7 ⟨v, rfl, hu7, hv7⟩; (try (have N8 := Lib.hid (ownr_a HA.out.1 hv7 (rfl : (0 : Nat) = 0)))); (try (have N9 := Lib.hid (ownr_a HR.out.1 hv7 (rfl : (0 : Nat) = 0)))); have HV := Lib.hid (And.intro hv7 HS.out.flg.lt); (try (have HA2 := Lib.hid (And.intro (HA.out.1.upd hu7 (by have := HA.out.2; simp; omega)) HA.out.2); clear HA; have HA := HA2; clear HA2)); (try (have HR2 := Lib.hid (And.intro (HR.out.1.upd hu7 (by have := HR.out.2; simp; omega)) HR.out.2); clear HR; have HR := HR2; clear HR2)); have HS2 := Lib.hid (HS.out.upd hu7); clear HS; have HS := HS2; clear HS2 HQ; clear hu7 hv7
          (try dsimp only)
          (try simp only [Act.put, List.setIfInBounds_toArray, List.set_cons_zero, List.set_cons_succ])
          clear hHeld
          refine hK.out _ _ ?_ (fun hHeld => ?_)
          · exact ⟨HS.out.sB, HS.out.pB⟩
          clear hK K
          (try simp only [Act.put, List.setIfInBounds_toArray, List.set_cons_zero, List.set_cons_succ])
          refine wpAnyM_take 7 (v := ?_) rfl (by kernel_rfl) (fun _ _ _ h => h) (Or.inl ⟨by rfl, ?_⟩) (by assumption) ?_
          rotate_left
          · (intro wx hSw; (try dsimp only at hSw); go_simp; (try with_reducible rfl))
          (try simp only [Act.put, List.setIfInBounds_toArray, List.set_cons_zero, List.set_cons_succ])
          refine wpAnyM_take 8 (v := ?_) rfl (by kernel_rfl) (fun _ _ _ h => h) (Or.inl ⟨by rfl, ?_⟩) (by assumption) ?_
          rotate_left
          · (intro wx hSw; (try dsimp only at hSw); go_simp; (try with_reducible rfl))
          (try simp only [Act.put, List.setIfInBounds_toArray, List.set_cons_zero, List.set_cons_succ])
          refine wpAnyM_take 9 (v := ?_) rfl (by kernel_rfl) (fun _ _ _ h => h) (Or.inl ⟨by rfl, ?_⟩) (by assumption) ?_
          rotate_left
          · (intro wx hSw; (try dsimp only at hSw); go_simp; (try with_reducible rfl))
          (try simp only [Act.put, List.setIfInBounds_toArray, List.set_cons_zero, List.set_cons_succ])
          refine wpAnyM_take 10 (v := ?_) rfl (by kernel_rfl) (fun _ _ _ h => h) (Or.inl ⟨by rfl, ?_⟩) (by assumption) ?_
          rotate_left
          · (intro wx hSw; (try dsimp only at hSw); go_simp; (try with_reducible rfl))
          (try simp only [Act.put, List.setIfInBounds_toArray, List.set_cons_zero, List.set_cons_succ])
          refine wpAnyM_twoS 11 12 rfl rfl (by kernel_rfl) (fun K hK => ?_) (fun K hK => ?_)
          · go_simp; have HA := Lib.hid (mn_st HS.out _ (by first | (simp; rfl) | rfl)); (try (have N8 := Lib.hid (ownr_n HV.out.1 (by first | (simp; rfl) | rfl)); have HV2 := Lib.hid (And.intro (HV.out.1.alloc (.cells #[.int .i64 0, .int .i64 0, .int .i64 0, .int .i64 0, .int .i64 0, .int .i64 0, .int .i64 0, .int .i64 0, .int .i64 0, .int .i64 0, .int .i64 0, .int .i64 0, .int .i64 0, .int .i64 0, .int .i64 0, .int .i64 0, .int .i64 0, .int .i64 0, .int .i64 0, .int .i64 0, .int .i64 0, .int .i64 0, .int .i64 0, .int .i64 0] 23)) HV.out.2); clear HV; have HV := HV2; clear HV2)); have HS2 := Lib.hid (HS.out.alloc (.cells #[.int .i64 0, .int .i64 0, .int .i64 0, .int .i64 0, .int .i64 0, .int .i64 0, .int .i64 0, .int .i64 0, .int .i64 0, .int .i64 0, .int .i64 0, .int .i64 0, .int .i64 0, .int .i64 0, .int .i64 0, .int .i64 0, .int .i64 0, .int .i64 0, .int .i64 0, .int .i64 0, .int .i64 0, .int .i64 0, .int .i64 0, .int .i64 0] 23)); clear HS; have HS := HS2; clear HS2; (try (have HR2 := Lib.hid (And.intro (HR.out.1.alloc (.cells #[.int .i64 0, .int .i64 0, .int .i64 0, .int .i64 0, .int .i64 0, .int .i64 0, .int .i64 0, .int .i64 0, .int .i64 0, .int .i64 0, .int .i64 0, .int .i64 0, .int .i64 0, .int .i64 0, .int .i64 0, .int .i64 0, .int .i64 0, .int .i64 0, .int .i64 0, .int .i64 0, .int .i64 0, .int .i64 0, .int .i64 0, .int .i64 0] 23)) HR.out.2); clear HR; have HR := HR2; clear HR2)); (try (have HQ2 := Lib.hid (HQ.out.below (Below.alloc (Below.refl _ _) (Nat.le_refl _) (.cells #[.int .i64 0, .int .i64 0, .int .i64 0, .int .i64 0, .int .i64 0, .int .i64 0, .int .i64 0, .int .i64 0, .int .i64 0, .int .i64 0, .int .i64 0, .int .i64 0, .int .i64 0, .int .i64 0, .int .i64 0, .int .i64 0, .int .i64 0, .int .i64 0, .int .i64 0, .int .i64 0, .int .i64 0, .int .i64 0, .int .i64 0, .int .i64 0] 23))); clear HQ; have HQ := HQ2; clear HQ2))
            clear hHeld
            refine hK.out _ _ ?_ (fun hHeld => ?_)
            · exact ⟨HS.out.sB, HS.out.pB⟩
            clear hK K
            (try simp only [Act.put, List.setIfInBounds_toArray, List.set_cons_zero, List.set_cons_succ])
            refine wpAnyM_oneS 12 rfl (by kernel_rfl) (fun K hK => ?_)
            go_simp; have HR := Lib.hid (mn_cov HS.out _ (by first | (simp; rfl) | rfl)); (try (have N9 := Lib.hid (ownr_n HV.out.1 (by first | (simp; rfl) | rfl)); have HV2 := Lib.hid (And.intro (HV.out.1.alloc (.cells Try.zeroCells26 26)) HV.out.2); clear HV; have HV := HV2; clear HV2)); have HS2 := Lib.hid (HS.out.alloc (.cells Try.zeroCells26 26)); clear HS; have HS := HS2; clear HS2; (try (have HA2 := Lib.hid (And.intro (HA.out.1.alloc (.cells Try.zeroCells26 26)) HA.out.2); clear HA; have HA := HA2; clear HA2)); (try (have HQ2 := Lib.hid (HQ.out.below (Below.alloc (Below.refl _ _) (Nat.le_refl _) (.cells Try.zeroCells26 26))); clear HQ; have HQ := HQ2; clear HQ2))
            clear hHeld
            refine hK.out _ _ ?_ (fun hHeld => ?_)
            · exact ⟨HS.out.sB, HS.out.pB⟩
            clear hK K
            (try simp only [Act.put, List.setIfInBounds_toArray, List.set_cons_zero, List.set_cons_succ])
            have HX := Lib.hid (blk_ne2 HR.out.1 HA.out.1 (by decide)); have HE := Lib.hid (And.intro (HR.out.1.setRow_other (arrv 24 SN) HX.out) HR.out.2); have HV2 := Lib.hid (And.intro (HV.out.1.row2 (arrv 24 SN) N8.out) HV.out.2); clear HV; have HV := HV2; clear HV2; have HS2 := Lib.hid (HS.out.row HA.out.2 (arrv 24 SN)); clear HS; have HS := HS2; clear HS2; have HB := Lib.hid (And.intro (HA.out.1.setRow SN) HA.out.2)
            clear hHeld
            refine wpAnyM_doneS 13 rfl (by kernel_rfl) (by rfl) (run_store_row 23 (.tmp 8) (.tmp 32) rfl _ rfl rfl HA.out.1 ist) ?_ (fun hHeld => ?_)
            · exact ⟨HS.out.sB, HS.out.pB⟩
            (try simp only [Act.put])
            have HV2 := Lib.hid (And.intro (HV.out.1.row2 (arrv 300 PN) N9.out) HV.out.2); clear HV; have HV := HV2; clear HV2; have HS2 := Lib.hid (HS.out.row HE.out.2 (arrv 300 PN)); clear HS; have HS := HS2; clear HS2; have HB2 := Lib.hid (And.intro (HB.out.1.setRow_other (arrv 300 PN) (fun e => HX.out e.symm)) HB.out.2); clear HB; have HB := HB2; clear HB2; have HC := Lib.hid (And.intro (HE.out.1.setRow PN) HE.out.2)
            clear hHeld
            refine wpAnyM_doneS 14 rfl (by kernel_rfl) (by rfl) (run_store_row 26 (.tmp 9) (.tmp 33) rfl _ rfl rfl HE.out.1 icov) ?_ (fun hHeld => ?_)
            · exact ⟨HS.out.sB, HS.out.pB⟩
            (try simp only [Act.put])
            refine wpAnyM_one 15 rfl (by kernel_rfl) (fun K hK => ?_)
            go_simp
            refine hK.out _ _ (.inl (by kernel_rfl)) (fun _ => ?_)
            clear hK K
            (try simp only [Act.put, List.setIfInBounds_toArray, List.set_cons_zero, List.set_cons_succ])
            refine wpAnyM_done (by kernel_rfl) ?_ _
            (go_wp2_with fail; obtain ⟨q3, cp3, hvq, hr⟩ := HV.out.1.toldG (lo := bc) (by have := HV.out.2; omega); (rw [hvq]); clear hvq; go_meet; exact ⟨_, _, _, _, rfl, rfl, rfl, Lib.hid ⟨HS.out, HB.out, HC.out, hr⟩⟩)
          · go_simp; have HR := Lib.hid (mn_cov HS.out _ (by first | (simp; rfl) | rfl)); (try (have N9 := Lib.hid (ownr_n HV.out.1 (by first | (simp; rfl) | rfl)); have HV2 := Lib.hid (And.intro (HV.out.1.alloc (.cells Try.zeroCells26 26)) HV.out.2); clear HV; have HV := HV2; clear HV2)); have HS2 := Lib.hid (HS.out.alloc (.cells Try.zeroCells26 26)); clear HS; have HS := HS2; clear HS2; (try (have HA2 := Lib.hid (And.intro (HA.out.1.alloc (.cells Try.zeroCells26 26)) HA.out.2); clear HA; have HA := HA2; clear HA2)); (try (have HQ2 := Lib.hid (HQ.out.below (Below.alloc (Below.refl _ _) (Nat.le_refl _) (.cells Try.zeroCells26 26))); clear HQ; have HQ := HQ2; clear HQ2))
            clear hHeld
            refine hK.out _ _ ?_ (fun hHeld => ?_)
            · exact ⟨HS.out.sB, HS.out.pB⟩
            clear hK K
            (try simp only [Act.put, List.setIfInBounds_toArray, List.set_cons_zero, List.set_cons_succ])
            refine wpAnyM_oneS 11 rfl (by kernel_rfl) (fun K hK => ?_)
            go_simp; have HA := Lib.hid (mn_st HS.out _ (by first | (simp; rfl) | rfl)); (try (have N8 := Lib.hid (ownr_n HV.out.1 (by first | (simp; rfl) | rfl)); have HV2 := Lib.hid (And.intro (HV.out.1.alloc (.cells #[.int .i64 0, .int .i64 0, .int .i64 0, .int .i64 0, .int .i64 0, .int .i64 0, .int .i64 0, .int .i64 0, .int .i64 0, .int .i64 0, .int .i64 0, .int .i64 0, .int .i64 0, .int .i64 0, .int .i64 0, .int .i64 0, .int .i64 0, .int .i64 0, .int .i64 0, .int .i64 0, .int .i64 0, .int .i64 0, .int .i64 0, .int .i64 0] 23)) HV.out.2); clear HV; have HV := HV2; clear HV2)); have HS2 := Lib.hid (HS.out.alloc (.cells #[.int .i64 0, .int .i64 0, .int .i64 0, .int .i64 0, .int .i64 0, .int .i64 0, .int .i64 0, .int .i64 0, .int .i64 0, .int .i64 0, .int .i64 0, .int .i64 0, .int .i64 0, .int .i64 0, .int .i64 0, .int .i64 0, .int .i64 0, .int .i64 0, .int .i64 0, .int .i64 0, .int .i64 0, .int .i64 0, .int .i64 0, .int .i64 0] 23)); clear HS; have HS := HS2; clear HS2; (try (have HR2 := Lib.hid (And.intro (HR.out.1.alloc (.cells #[.int .i64 0, .int .i64 0, .int .i64 0, .int .i64 0, .int .i64 0, .int .i64 0, .int .i64 0, .int .i64 0, .int .i64 0, .int .i64 0, .int .i64 0, .int .i64 0, .int .i64 0, .int .i64 0, .int .i64 0, .int .i64 0, .int .i64 0, .int .i64 0, .int .i64 0, .int .i64 0, .int .i64 0, .int .i64 0, .int .i64 0, .int .i64 0] 23)) HR.out.2); clear HR; have HR := HR2; clear HR2)); (try (have HQ2 := Lib.hid (HQ.out.below (Below.alloc (Below.refl _ _) (Nat.le_refl _) (.cells #[.int .i64 0, .int .i64 0, .int .i64 0, .int .i64 0, .int .i64 0, .int .i64 0, .int .i64 0, .int .i64 0, .int .i64 0, .int .i64 0, .int .i64 0, .int .i64 0, .int .i64 0, .int .i64 0, .int .i64 0, .int .i64 0, .int .i64 0, .int .i64 0, .int .i64 0, .int .i64 0, .int .i64 0, .int .i64 0, .int .i64 0, .int .i64 0] 23))); clear HQ; have HQ := HQ2; clear HQ2))
            clear hHeld
            refine hK.out _ _ ?_ (fun hHeld => ?_)
            · exact ⟨HS.out.sB, HS.out.pB⟩
            clear hK K
            (try simp only [Act.put, List.setIfInBounds_toArray, List.set_cons_zero, List.set_cons_succ])
            have HX := Lib.hid (blk_ne2 HR.out.1 HA.out.1 (by decide)); have HE := Lib.hid (And.intro (HR.out.1.setRow_other (arrv 24 SN) HX.out) HR.out.2); have HV2 := Lib.hid (And.intro (HV.out.1.row2 (arrv 24 SN) N8.out) HV.out.2); clear HV; have HV := HV2; clear HV2; have HS2 := Lib.hid (HS.out.row HA.out.2 (arrv 24 SN)); clear HS; have HS := HS2; clear HS2; have HB := Lib.hid (And.intro (HA.out.1.setRow SN) HA.out.2)
            clear hHeld
            refine wpAnyM_doneS 13 rfl (by kernel_rfl) (by rfl) (run_store_row 23 (.tmp 8) (.tmp 32) rfl _ rfl rfl HA.out.1 ist) ?_ (fun hHeld => ?_)
            · exact ⟨HS.out.sB, HS.out.pB⟩
            (try simp only [Act.put])
            have HV2 := Lib.hid (And.intro (HV.out.1.row2 (arrv 300 PN) N9.out) HV.out.2); clear HV; have HV := HV2; clear HV2; have HS2 := Lib.hid (HS.out.row HE.out.2 (arrv 300 PN)); clear HS; have HS := HS2; clear HS2; have HB2 := Lib.hid (And.intro (HB.out.1.setRow_other (arrv 300 PN) (fun e => HX.out e.symm)) HB.out.2); clear HB; have HB := HB2; clear HB2; have HC := Lib.hid (And.intro (HE.out.1.setRow PN) HE.out.2)
            clear hHeld
            refine wpAnyM_doneS 14 rfl (by kernel_rfl) (by rfl) (run_store_row 26 (.tmp 9) (.tmp 33) rfl _ rfl rfl HE.out.1 icov) ?_ (fun hHeld => ?_)
            · exact ⟨HS.out.sB, HS.out.pB⟩
            (try simp only [Act.put])
            refine wpAnyM_one 15 rfl (by kernel_rfl) (fun K hK => ?_)
            go_simp
            refine hK.out _ _ (.inl (by kernel_rfl)) (fun _ => ?_)
            clear hK K
            (try simp only [Act.put, List.setIfInBounds_toArray, List.set_cons_zero, List.set_cons_succ])
            refine wpAnyM_done (by kernel_rfl) ?_ _
            (go_wp2_with fail; obtain ⟨q3, cp3, hvq, hr⟩ := HV.out.1.toldG (lo := bc) (by have := HV.out.2; omega); (rw [hvq]); clear hvq; go_meet; exact ⟨_, _, _, _, rfl, rfl, rfl, Lib.hid ⟨HS.out, HB.out, HC.out, hr⟩⟩)
        · go_simp; have HA := Lib.hid (mn_st HS.out _ (by first | (simp; rfl) | rfl)); (try (have N8 := Lib.hid (ownr_n HV.out.1 (by first | (simp; rfl) | rfl)); have HV2 := Lib.hid (And.intro (HV.out.1.alloc (.cells #[.int .i64 0, .int .i64 0, .int .i64 0, .int .i64 0, .int .i64 0, .int .i64 0, .int .i64 0, .int .i64 0, .int .i64 0, .int .i64 0, .int .i64 0, .int .i64 0, .int .i64 0, .int .i64 0, .int .i64 0, .int .i64 0, .int .i64 0, .int .i64 0, .int .i64 0, .int .i64 0, .int .i64 0, .int .i64 0, .int .i64 0, .int .i64 0] 23)) HV.out.2); clear HV; have HV := HV2; clear HV2)); have HS2 := Lib.hid (HS.out.alloc (.cells #[.int .i64 0, .int .i64 0, .int .i64 0, .int .i64 0, .int .i64 0, .int .i64 0, .int .i64 0, .int .i64 0, .int .i64 0, .int .i64 0, .int .i64 0, .int .i64 0, .int .i64 0, .int .i64 0, .int .i64 0, .int .i64 0, .int .i64 0, .int .i64 0, .int .i64 0, .int .i64 0, .int .i64 0, .int .i64 0, .int .i64 0, .int .i64 0] 23)); clear HS; have HS := HS2; clear HS2; (try (have HR2 := Lib.hid (And.intro (HR.out.1.alloc (.cells #[.int .i64 0, .int .i64 0, .int .i64 0, .int .i64 0, .int .i64 0, .int .i64 0, .int .i64 0, .int .i64 0, .int .i64 0, .int .i64 0, .int .i64 0, .int .i64 0, .int .i64 0, .int .i64 0, .int .i64 0, .int .i64 0, .int .i64 0, .int .i64 0, .int .i64 0, .int .i64 0, .int .i64 0, .int .i64 0, .int .i64 0, .int .i64 0] 23)) HR.out.2); clear HR; have HR := HR2; clear HR2)); (try (have HQ2 := Lib.hid (HQ.out.below (Below.alloc (Below.refl _ _) (Nat.le_refl _) (.cells #[.int .i64 0, .int .i64 0, .int .i64 0, .int .i64 0, .int .i64 0, .int .i64 0, .int .i64 0, .int .i64 0, .int .i64 0, .int .i64 0, .int .i64 0, .int .i64 0, .int .i64 0, .int .i64 0, .int .i64 0, .int .i64 0, .int .i64 0, .int .i64 0, .int .i64 0, .int .i64 0, .int .i64 0, .int .i64 0, .int .i64 0, .int .i64 0] 23))); clear HQ; have HQ := HQ2; clear HQ2))
          clear hHeld
          refine hK.out _ _ ?_ (fun hHeld => ?_)
          · exact ⟨HS.out.sB, HS.out.pB⟩
          clear hK K
          (try simp only [Act.put, List.setIfInBounds_toArray, List.set_cons_zero, List.set_cons_succ])
          refine wpAnyM_twoS 6 12 rfl rfl (by kernel_rfl) (fun K hK => ?_) (fun K hK => ?_)
          · go_simp
            (refine (AL.out _ HS.out.flg.cell HS.out.flg.free _ _ HQ.out).mono ?_); rintro e w7 ⟨v, rfl, hu7, hv7⟩; (try (have N8 := Lib.hid (ownr_a HA.out.1 hv7 (rfl : (0 : Nat) = 0)))); (try (have N9 := Lib.hid (ownr_a HR.out.1 hv7 (rfl : (0 : Nat) = 0)))); have HV := Lib.hid (And.intro hv7 HS.out.flg.lt); (try (have HA2 := Lib.hid (And.intro (HA.out.1.upd hu7 (by have := HA.out.2; simp; omega)) HA.out.2); clear HA; have HA := HA2; clear HA2)); (try (have HR2 := Lib.hid (And.intro (HR.out.1.upd hu7 (by have := HR.out.2; simp; omega)) HR.out.2); clear HR; have HR := HR2; clear HR2)); have HS2 := Lib.hid (HS.out.upd hu7); clear HS; have HS := HS2; clear HS2 HQ; clear hu7 hv7
            (try dsimp only)
            (try simp only [Act.put, List.setIfInBounds_toArray, List.set_cons_zero, List.set_cons_succ])
            clear hHeld
            refine hK.out _ _ ?_ (fun hHeld => ?_)
            · exact ⟨HS.out.sB, HS.out.pB⟩
            clear hK K
            (try simp only [Act.put, List.setIfInBounds_toArray, List.set_cons_zero, List.set_cons_succ])
            refine wpAnyM_take 7 (v := ?_) rfl (by kernel_rfl) (fun _ _ _ h => h) (Or.inl ⟨by rfl, ?_⟩) (by assumption) ?_
            rotate_left
            · (intro wx hSw; (try dsimp only at hSw); go_simp; (try with_reducible rfl))
            (try simp only [Act.put, List.setIfInBounds_toArray, List.set_cons_zero, List.set_cons_succ])
            refine wpAnyM_take 8 (v := ?_) rfl (by kernel_rfl) (fun _ _ _ h => h) (Or.inl ⟨by rfl, ?_⟩) (by assumption) ?_
            rotate_left
            · (intro wx hSw; (try dsimp only at hSw); go_simp; (try with_reducible rfl))
            (try simp only [Act.put, List.setIfInBounds_toArray, List.set_cons_zero, List.set_cons_succ])
            refine wpAnyM_take 9 (v := ?_) rfl (by kernel_rfl) (fun _ _ _ h => h) (Or.inl ⟨by rfl, ?_⟩) (by assumption) ?_
            rotate_left
            · (intro wx hSw; (try dsimp only at hSw); go_simp; (try with_reducible rfl))
            (try simp only [Act.put, List.setIfInBounds_toArray, List.set_cons_zero, List.set_cons_succ])
            refine wpAnyM_take 10 (v := ?_) rfl (by kernel_rfl) (fun _ _ _ h => h) (Or.inl ⟨by rfl, ?_⟩) (by assumption) ?_
            rotate_left
            · (intro wx hSw; (try dsimp only at hSw); go_simp; (try with_reducible rfl))
            (try simp only [Act.put, List.setIfInBounds_toArray, List.set_cons_zero, List.set_cons_succ])
            refine wpAnyM_oneS 12 rfl (by kernel_rfl) (fun K hK => ?_)
            go_simp; have HR := Lib.hid (mn_cov HS.out _ (by first | (simp; rfl) | rfl)); (try (have N9 := Lib.hid (ownr_n HV.out.1 (by first | (simp; rfl) | rfl)); have HV2 := Lib.hid (And.intro (HV.out.1.alloc (.cells Try.zeroCells26 26)) HV.out.2); clear HV; have HV := HV2; clear HV2)); have HS2 := Lib.hid (HS.out.alloc (.cells Try.zeroCells26 26)); clear HS; have HS := HS2; clear HS2; (try (have HA2 := Lib.hid (And.intro (HA.out.1.alloc (.cells Try.zeroCells26 26)) HA.out.2); clear HA; have HA := HA2; clear HA2)); (try (have HQ2 := Lib.hid (HQ.out.below (Below.alloc (Below.refl _ _) (Nat.le_refl _) (.cells Try.zeroCells26 26))); clear HQ; have HQ := HQ2; clear HQ2))
            clear hHeld
            refine hK.out _ _ ?_ (fun hHeld => ?_)
            · exact ⟨HS.out.sB, HS.out.pB⟩
            clear hK K
            (try simp only [Act.put, List.setIfInBounds_toArray, List.set_cons_zero, List.set_cons_succ])
            have HX := Lib.hid (blk_ne2 HR.out.1 HA.out.1 (by decide)); have HE := Lib.hid (And.intro (HR.out.1.setRow_other (arrv 24 SN) HX.out) HR.out.2); have HV2 := Lib.hid (And.intro (HV.out.1.row2 (arrv 24 SN) N8.out) HV.out.2); clear HV; have HV := HV2; clear HV2; have HS2 := Lib.hid (HS.out.row HA.out.2 (arrv 24 SN)); clear HS; have HS := HS2; clear HS2; have HB := Lib.hid (And.intro (HA.out.1.setRow SN) HA.out.2)
            clear hHeld
            refine wpAnyM_doneS 13 rfl (by kernel_rfl) (by rfl) (run_store_row 23 (.tmp 8) (.tmp 32) rfl _ rfl rfl HA.out.1 ist) ?_ (fun hHeld => ?_)
            · exact ⟨HS.out.sB, HS.out.pB⟩
            (try simp only [Act.put])
            have HV2 := Lib.hid (And.intro (HV.out.1.row2 (arrv 300 PN) N9.out) HV.out.2); clear HV; have HV := HV2; clear HV2; have HS2 := Lib.hid (HS.out.row HE.out.2 (arrv 300 PN)); clear HS; have HS := HS2; clear HS2; have HB2 := Lib.hid (And.intro (HB.out.1.setRow_other (arrv 300 PN) (fun e => HX.out e.symm)) HB.out.2); clear HB; have HB := HB2; clear HB2; have HC := Lib.hid (And.intro (HE.out.1.setRow PN) HE.out.2)
            clear hHeld
            refine wpAnyM_doneS 14 rfl (by kernel_rfl) (by rfl) (run_store_row 26 (.tmp 9) (.tmp 33) rfl _ rfl rfl HE.out.1 icov) ?_ (fun hHeld => ?_)
            · exact ⟨HS.out.sB, HS.out.pB⟩
            (try simp only [Act.put])
            refine wpAnyM_one 15 rfl (by kernel_rfl) (fun K hK => ?_)
            go_simp
            refine hK.out _ _ (.inl (by kernel_rfl)) (fun _ => ?_)
            clear hK K
            (try simp only [Act.put, List.setIfInBounds_toArray, List.set_cons_zero, List.set_cons_succ])
            refine wpAnyM_done (by kernel_rfl) ?_ _
            (go_wp2_with fail; obtain ⟨q3, cp3, hvq, hr⟩ := HV.out.1.toldG (lo := bc) (by have := HV.out.2; omega); (rw [hvq]); clear hvq; go_meet; exact ⟨_, _, _, _, rfl, rfl, rfl, Lib.hid ⟨HS.out, HB.out, HC.out, hr⟩⟩)
          · go_simp; have HR := Lib.hid (mn_cov HS.out _ (by first | (simp; rfl) | rfl)); (try (have N9 := Lib.hid (ownr_n HV.out.1 (by first | (simp; rfl) | rfl)); have HV2 := Lib.hid (And.intro (HV.out.1.alloc (.cells Try.zeroCells26 26)) HV.out.2); clear HV; have HV := HV2; clear HV2)); have HS2 := Lib.hid (HS.out.alloc (.cells Try.zeroCells26 26)); clear HS; have HS := HS2; clear HS2; (try (have HA2 := Lib.hid (And.intro (HA.out.1.alloc (.cells Try.zeroCells26 26)) HA.out.2); clear HA; have HA := HA2; clear HA2)); (try (have HQ2 := Lib.hid (HQ.out.below (Below.alloc (Below.refl _ _) (Nat.le_refl _) (.cells Try.zeroCells26 26))); clear HQ; have HQ := HQ2; clear HQ2))
            clear hHeld
            refine hK.out _ _ ?_ (fun hHeld => ?_)
            · exact ⟨HS.out.sB, HS.out.pB⟩
            clear hK K
            (try simp only [Act.put, List.setIfInBounds_toArray, List.set_cons_zero, List.set_cons_succ])
            refine wpAnyM_oneS 6 rfl (by kernel_rfl) (fun K hK => ?_)
            go_simp
            (refine (AL.out _ HS.out.flg.cell HS.out.flg.free _ _ HQ.out).mono ?_); rintro e w7 ⟨v, rfl, hu7, hv7⟩; (try (have N8 := Lib.hid (ownr_a HA.out.1 hv7 (rfl : (0 : Nat) = 0)))); (try (have N9 := Lib.hid (ownr_a HR.out.1 hv7 (rfl : (0 : Nat) = 0)))); have HV := Lib.hid (And.intro hv7 HS.out.flg.lt); (try (have HA2 := Lib.hid (And.intro (HA.out.1.upd hu7 (by have := HA.out.2; simp; omega)) HA.out.2); clear HA; have HA := HA2; clear HA2)); (try (have HR2 := Lib.hid (And.intro (HR.out.1.upd hu7 (by have := HR.out.2; simp; omega)) HR.out.2); clear HR; have HR := HR2; clear HR2)); have HS2 := Lib.hid (HS.out.upd hu7); clear HS; have HS := HS2; clear HS2 HQ; clear hu7 hv7
            (try dsimp only)
            (try simp only [Act.put, List.setIfInBounds_toArray, List.set_cons_zero, List.set_cons_succ])
            clear hHeld
            refine hK.out _ _ ?_ (fun hHeld => ?_)
            · exact ⟨HS.out.sB, HS.out.pB⟩
            clear hK K
            (try simp only [Act.put, List.setIfInBounds_toArray, List.set_cons_zero, List.set_cons_succ])
            refine wpAnyM_take 7 (v := ?_) rfl (by kernel_rfl) (fun _ _ _ h => h) (Or.inl ⟨by rfl, ?_⟩) (by assumption) ?_
            rotate_left
            · (intro wx hSw; (try dsimp only at hSw); go_simp; (try with_reducible rfl))
            (try simp only [Act.put, List.setIfInBounds_toArray, List.set_cons_zero, List.set_cons_succ])
            refine wpAnyM_take 8 (v := ?_) rfl (by kernel_rfl) (fun _ _ _ h => h) (Or.inl ⟨by rfl, ?_⟩) (by assumption) ?_
            rotate_left
            · (intro wx hSw; (try dsimp only at hSw); go_simp; (try with_reducible rfl))
            (try simp only [Act.put, List.setIfInBounds_toArray, List.set_cons_zero, List.set_cons_succ])
            refine wpAnyM_take 9 (v := ?_) rfl (by kernel_rfl) (fun _ _ _ h => h) (Or.inl ⟨by rfl, ?_⟩) (by assumption) ?_
            rotate_left
            · (intro wx hSw; (try dsimp only at hSw); go_simp; (try with_reducible rfl))
            (try simp only [Act.put, List.setIfInBounds_toArray, List.set_cons_zero, List.set_cons_succ])
            refine wpAnyM_take 10 (v := ?_) rfl (by kernel_rfl) (fun _ _ _ h => h) (Or.inl ⟨by rfl, ?_⟩) (by assumption) ?_
            rotate_left
            · (intro wx hSw; (try dsimp only at hSw); go_simp; (try with_reducible rfl))
            (try simp only [Act.put, List.setIfInBounds_toArray, List.set_cons_zero, List.set_cons_succ])
            have HX := Lib.hid (blk_ne2 HR.out.1 HA.out.1 (by decide)); have HE := Lib.hid (And.intro (HR.out.1.setRow_other (arrv 24 SN) HX.out) HR.out.2); have HV2 := Lib.hid (And.intro (HV.out.1.row2 (arrv 24 SN) N8.out) HV.out.2); clear HV; have HV := HV2; clear HV2; have HS2 := Lib.hid (HS.out.row HA.out.2 (arrv 24 SN)); clear HS; have HS := HS2; clear HS2; have HB := Lib.hid (And.intro (HA.out.1.setRow SN) HA.out.2)
            clear hHeld
            refine wpAnyM_doneS 13 rfl (by kernel_rfl) (by rfl) (run_store_row 23 (.tmp 8) (.tmp 32) rfl _ rfl rfl HA.out.1 ist) ?_ (fun hHeld => ?_)
            · exact ⟨HS.out.sB, HS.out.pB⟩
            (try simp only [Act.put])
            have HV2 := Lib.hid (And.intro (HV.out.1.row2 (arrv 300 PN) N9.out) HV.out.2); clear HV; have HV := HV2; clear HV2; have HS2 := Lib.hid (HS.out.row HE.out.2 (arrv 300 PN)); clear HS; have HS := HS2; clear HS2; have HB2 := Lib.hid (And.intro (HB.out.1.setRow_other (arrv 300 PN) (fun e => HX.out e.symm)) HB.out.2); clear HB; have HB := HB2; clear HB2; have HC := Lib.hid (And.intro (HE.out.1.setRow PN) HE.out.2)
            clear hHeld
            refine wpAnyM_doneS 14 rfl (by kernel_rfl) (by rfl) (run_store_row 26 (.tmp 9) (.tmp 33) rfl _ rfl rfl HE.out.1 icov) ?_ (fun hHeld => ?_)
            · exact ⟨HS.out.sB, HS.out.pB⟩
            (try simp only [Act.put])
            refine wpAnyM_one 15 rfl (by kernel_rfl) (fun K hK => ?_)
            go_simp
            refine hK.out _ _ (.inl (by kernel_rfl)) (fun _ => ?_)
            clear hK K
            (try simp only [Act.put, List.setIfInBounds_toArray, List.set_cons_zero, List.set_cons_succ])
            refine wpAnyM_done (by kernel_rfl) ?_ _
            (go_wp2_with fail; obtain ⟨q3, cp3, hvq, hr⟩ := HV.out.1.toldG (lo := bc) (by have := HV.out.2; omega); (rw [hvq]); clear hvq; go_meet; exact ⟨_, _, _, _, rfl, rfl, rfl, Lib.hid ⟨HS.out, HB.out, HC.out, hr⟩⟩)
        · go_simp; have HR := Lib.hid (mn_cov HS.out _ (by first | (simp; rfl) | rfl)); (try (have N9 := Lib.hid (ownr_n HV.out.1 (by first | (simp; rfl) | rfl)); have HV2 := Lib.hid (And.intro (HV.out.1.alloc (.cells Try.zeroCells26 26)) HV.out.2); clear HV; have HV := HV2; clear HV2)); have HS2 := Lib.hid (HS.out.alloc (.cells Try.zeroCells26 26)); clear HS; have HS := HS2; clear HS2; (try (have HA2 := Lib.hid (And.intro (HA.out.1.alloc (.cells Try.zeroCells26 26)) HA.out.2); clear HA; have HA := HA2; clear HA2)); (try (have HQ2 := Lib.hid (HQ.out.below (Below.alloc (Below.refl _ _) (Nat.le_refl _) (.cells Try.zeroCells26 26))); clear HQ; have HQ := HQ2; clear HQ2))
          clear hHeld
          refine hK.out _ _ ?_ (fun hHeld => ?_)
          · exact ⟨HS.out.sB, HS.out.pB⟩
          clear hK K
          (try simp only [Act.put, List.setIfInBounds_toArray, List.set_cons_zero, List.set_cons_succ])
          refine wpAnyM_twoS 6 11 rfl rfl (by kernel_rfl) (fun K hK => ?_) (fun K hK => ?_)
          · go_simp
            (refine (AL.out _ HS.out.flg.cell HS.out.flg.free _ _ HQ.out).mono ?_); rintro e w7 ⟨v, rfl, hu7, hv7⟩; (try (have N8 := Lib.hid (ownr_a HA.out.1 hv7 (rfl : (0 : Nat) = 0)))); (try (have N9 := Lib.hid (ownr_a HR.out.1 hv7 (rfl : (0 : Nat) = 0)))); have HV := Lib.hid (And.intro hv7 HS.out.flg.lt); (try (have HA2 := Lib.hid (And.intro (HA.out.1.upd hu7 (by have := HA.out.2; simp; omega)) HA.out.2); clear HA; have HA := HA2; clear HA2)); (try (have HR2 := Lib.hid (And.intro (HR.out.1.upd hu7 (by have := HR.out.2; simp; omega)) HR.out.2); clear HR; have HR := HR2; clear HR2)); have HS2 := Lib.hid (HS.out.upd hu7); clear HS; have HS := HS2; clear HS2 HQ; clear hu7 hv7
            (try dsimp only)
            (try simp only [Act.put, List.setIfInBounds_toArray, List.set_cons_zero, List.set_cons_succ])
            clear hHeld
            refine hK.out _ _ ?_ (fun hHeld => ?_)
            · exact ⟨HS.out.sB, HS.out.pB⟩
            clear hK K
            (try simp only [Act.put, List.setIfInBounds_toArray, List.set_cons_zero, List.set_cons_succ])
            refine wpAnyM_take 7 (v := ?_) rfl (by kernel_rfl) (fun _ _ _ h => h) (Or.inl ⟨by rfl, ?_⟩) (by assumption) ?_
            rotate_left
            · (intro wx hSw; (try dsimp only at hSw); go_simp; (try with_reducible rfl))
            (try simp only [Act.put, List.setIfInBounds_toArray, List.set_cons_zero, List.set_cons_succ])
            refine wpAnyM_take 8 (v := ?_) rfl (by kernel_rfl) (fun _ _ _ h => h) (Or.inl ⟨by rfl, ?_⟩) (by assumption) ?_
            rotate_left
            · (intro wx hSw; (try dsimp only at hSw); go_simp; (try with_reducible rfl))
            (try simp only [Act.put, List.setIfInBounds_toArray, List.set_cons_zero, List.set_cons_succ])
            refine wpAnyM_take 9 (v := ?_) rfl (by kernel_rfl) (fun _ _ _ h => h) (Or.inl ⟨by rfl, ?_⟩) (by assumption) ?_
            rotate_left
            · (intro wx hSw; (try dsimp only at hSw); go_simp; (try with_reducible rfl))
            (try simp only [Act.put, List.setIfInBounds_toArray, List.set_cons_zero, List.set_cons_succ])
            refine wpAnyM_take 10 (v := ?_) rfl (by kernel_rfl) (fun _ _ _ h => h) (Or.inl ⟨by rfl, ?_⟩) (by assumption) ?_
            rotate_left
            · (intro wx hSw; (try dsimp only at hSw); go_simp; (try with_reducible rfl))
            (try simp only [Act.put, List.setIfInBounds_toArray, List.set_cons_zero, List.set_cons_succ])
            refine wpAnyM_oneS 11 rfl (by kernel_rfl) (fun K hK => ?_)
            go_simp; have HA := Lib.hid (mn_st HS.out _ (by first | (simp; rfl) | rfl)); (try (have N8 := Lib.hid (ownr_n HV.out.1 (by first | (simp; rfl) | rfl)); have HV2 := Lib.hid (And.intro (HV.out.1.alloc (.cells #[.int .i64 0, .int .i64 0, .int .i64 0, .int .i64 0, .int .i64 0, .int .i64 0, .int .i64 0, .int .i64 0, .int .i64 0, .int .i64 0, .int .i64 0, .int .i64 0, .int .i64 0, .int .i64 0, .int .i64 0, .int .i64 0, .int .i64 0, .int .i64 0, .int .i64 0, .int .i64 0, .int .i64 0, .int .i64 0, .int .i64 0, .int .i64 0] 23)) HV.out.2); clear HV; have HV := HV2; clear HV2)); have HS2 := Lib.hid (HS.out.alloc (.cells #[.int .i64 0, .int .i64 0, .int .i64 0, .int .i64 0, .int .i64 0, .int .i64 0, .int .i64 0, .int .i64 0, .int .i64 0, .int .i64 0, .int .i64 0, .int .i64 0, .int .i64 0, .int .i64 0, .int .i64 0, .int .i64 0, .int .i64 0, .int .i64 0, .int .i64 0, .int .i64 0, .int .i64 0, .int .i64 0, .int .i64 0, .int .i64 0] 23)); clear HS; have HS := HS2; clear HS2; (try (have HR2 := Lib.hid (And.intro (HR.out.1.alloc (.cells #[.int .i64 0, .int .i64 0, .int .i64 0, .int .i64 0, .int .i64 0, .int .i64 0, .int .i64 0, .int .i64 0, .int .i64 0, .int .i64 0, .int .i64 0, .int .i64 0, .int .i64 0, .int .i64 0, .int .i64 0, .int .i64 0, .int .i64 0, .int .i64 0, .int .i64 0, .int .i64 0, .int .i64 0, .int .i64 0, .int .i64 0, .int .i64 0] 23)) HR.out.2); clear HR; have HR := HR2; clear HR2)); (try (have HQ2 := Lib.hid (HQ.out.below (Below.alloc (Below.refl _ _) (Nat.le_refl _) (.cells #[.int .i64 0, .int .i64 0, .int .i64 0, .int .i64 0, .int .i64 0, .int .i64 0, .int .i64 0, .int .i64 0, .int .i64 0, .int .i64 0, .int .i64 0, .int .i64 0, .int .i64 0, .int .i64 0, .int .i64 0, .int .i64 0, .int .i64 0, .int .i64 0, .int .i64 0, .int .i64 0, .int .i64 0, .int .i64 0, .int .i64 0, .int .i64 0] 23))); clear HQ; have HQ := HQ2; clear HQ2))
            clear hHeld
            refine hK.out _ _ ?_ (fun hHeld => ?_)
            · exact ⟨HS.out.sB, HS.out.pB⟩
            clear hK K
            (try simp only [Act.put, List.setIfInBounds_toArray, List.set_cons_zero, List.set_cons_succ])
            have HX := Lib.hid (blk_ne2 HR.out.1 HA.out.1 (by decide)); have HE := Lib.hid (And.intro (HR.out.1.setRow_other (arrv 24 SN) HX.out) HR.out.2); have HV2 := Lib.hid (And.intro (HV.out.1.row2 (arrv 24 SN) N8.out) HV.out.2); clear HV; have HV := HV2; clear HV2; have HS2 := Lib.hid (HS.out.row HA.out.2 (arrv 24 SN)); clear HS; have HS := HS2; clear HS2; have HB := Lib.hid (And.intro (HA.out.1.setRow SN) HA.out.2)
            clear hHeld
            refine wpAnyM_doneS 13 rfl (by kernel_rfl) (by rfl) (run_store_row 23 (.tmp 8) (.tmp 32) rfl _ rfl rfl HA.out.1 ist) ?_ (fun hHeld => ?_)
            · exact ⟨HS.out.sB, HS.out.pB⟩
            (try simp only [Act.put])
            have HV2 := Lib.hid (And.intro (HV.out.1.row2 (arrv 300 PN) N9.out) HV.out.2); clear HV; have HV := HV2; clear HV2; have HS2 := Lib.hid (HS.out.row HE.out.2 (arrv 300 PN)); clear HS; have HS := HS2; clear HS2; have HB2 := Lib.hid (And.intro (HB.out.1.setRow_other (arrv 300 PN) (fun e => HX.out e.symm)) HB.out.2); clear HB; have HB := HB2; clear HB2; have HC := Lib.hid (And.intro (HE.out.1.setRow PN) HE.out.2)
            clear hHeld
            refine wpAnyM_doneS 14 rfl (by kernel_rfl) (by rfl) (run_store_row 26 (.tmp 9) (.tmp 33) rfl _ rfl rfl HE.out.1 icov) ?_ (fun hHeld => ?_)
            · exact ⟨HS.out.sB, HS.out.pB⟩
            (try simp only [Act.put])
            refine wpAnyM_one 15 rfl (by kernel_rfl) (fun K hK => ?_)
            go_simp
            refine hK.out _ _ (.inl (by kernel_rfl)) (fun _ => ?_)
            clear hK K
            (try simp only [Act.put, List.setIfInBounds_toArray, List.set_cons_zero, List.set_cons_succ])
            refine wpAnyM_done (by kernel_rfl) ?_ _
            (go_wp2_with fail; obtain ⟨q3, cp3, hvq, hr⟩ := HV.out.1.toldG (lo := bc) (by have := HV.out.2; omega); (rw [hvq]); clear hvq; go_meet; exact ⟨_, _, _, _, rfl, rfl, rfl, Lib.hid ⟨HS.out, HB.out, HC.out, hr⟩⟩)
          · go_simp; have HA := Lib.hid (mn_st HS.out _ (by first | (simp; rfl) | rfl)); (try (have N8 := Lib.hid (ownr_n HV.out.1 (by first | (simp; rfl) | rfl)); have HV2 := Lib.hid (And.intro (HV.out.1.alloc (.cells #[.int .i64 0, .int .i64 0, .int .i64 0, .int .i64 0, .int .i64 0, .int .i64 0, .int .i64 0, .int .i64 0, .int .i64 0, .int .i64 0, .int .i64 0, .int .i64 0, .int .i64 0, .int .i64 0, .int .i64 0, .int .i64 0, .int .i64 0, .int .i64 0, .int .i64 0, .int .i64 0, .int .i64 0, .int .i64 0, .int .i64 0, .int .i64 0] 23)) HV.out.2); clear HV; have HV := HV2; clear HV2)); have HS2 := Lib.hid (HS.out.alloc (.cells #[.int .i64 0, .int .i64 0, .int .i64 0, .int .i64 0, .int .i64 0, .int .i64 0, .int .i64 0, .int .i64 0, .int .i64 0, .int .i64 0, .int .i64 0, .int .i64 0, .int .i64 0, .int .i64 0, .int .i64 0, .int .i64 0, .int .i64 0, .int .i64 0, .int .i64 0, .int .i64 0, .int .i64 0, .int .i64 0, .int .i64 0, .int .i64 0] 23)); clear HS; have HS := HS2; clear HS2; (try (have HR2 := Lib.hid (And.intro (HR.out.1.alloc (.cells #[.int .i64 0, .int .i64 0, .int .i64 0, .int .i64 0, .int .i64 0, .int .i64 0, .int .i64 0, .int .i64 0, .int .i64 0, .int .i64 0, .int .i64 0, .int .i64 0, .int .i64 0, .int .i64 0, .int .i64 0, .int .i64 0, .int .i64 0, .int .i64 0, .int .i64 0, .int .i64 0, .int .i64 0, .int .i64 0, .int .i64 0, .int .i64 0] 23)) HR.out.2); clear HR; have HR := HR2; clear HR2)); (try (have HQ2 := Lib.hid (HQ.out.below (Below.alloc (Below.refl _ _) (Nat.le_refl _) (.cells #[.int .i64 0, .int .i64 0, .int .i64 0, .int .i64 0, .int .i64 0, .int .i64 0, .int .i64 0, .int .i64 0, .int .i64 0, .int .i64 0, .int .i64 0, .int .i64 0, .int .i64 0, .int .i64 0, .int .i64 0, .int .i64 0, .int .i64 0, .int .i64 0, .int .i64 0, .int .i64 0, .int .i64 0, .int .i64 0, .int .i64 0, .int .i64 0] 23))); clear HQ; have HQ := HQ2; clear HQ2))
            clear hHeld
            refine hK.out _ _ ?_ (fun hHeld => ?_)
            · exact ⟨HS.out.sB, HS.out.pB⟩
            clear hK K
            (try simp only [Act.put, List.setIfInBounds_toArray, List.set_cons_zero, List.set_cons_succ])
            refine wpAnyM_oneS 6 rfl (by kernel_rfl) (fun K hK => ?_)
            go_simp
            (refine (AL.out _ HS.out.flg.cell HS.out.flg.free _ _ HQ.out).mono ?_); rintro e w7 ⟨v, rfl, hu7, hv7⟩; (try (have N8 := Lib.hid (ownr_a HA.out.1 hv7 (rfl : (0 : Nat) = 0)))); (try (have N9 := Lib.hid (ownr_a HR.out.1 hv7 (rfl : (0 : Nat) = 0)))); have HV := Lib.hid (And.intro hv7 HS.out.flg.lt); (try (have HA2 := Lib.hid (And.intro (HA.out.1.upd hu7 (by have := HA.out.2; simp; omega)) HA.out.2); clear HA; have HA := HA2; clear HA2)); (try (have HR2 := Lib.hid (And.intro (HR.out.1.upd hu7 (by have := HR.out.2; simp; omega)) HR.out.2); clear HR; have HR := HR2; clear HR2)); have HS2 := Lib.hid (HS.out.upd hu7); clear HS; have HS := HS2; clear HS2 HQ; clear hu7 hv7
            (try dsimp only)
            (try simp only [Act.put, List.setIfInBounds_toArray, List.set_cons_zero, List.set_cons_succ])
            clear hHeld
            refine hK.out _ _ ?_ (fun hHeld => ?_)
            · exact ⟨HS.out.sB, HS.out.pB⟩
            clear hK K
            (try simp only [Act.put, List.setIfInBounds_toArray, List.set_cons_zero, List.set_cons_succ])
            refine wpAnyM_take 7 (v := ?_) rfl (by kernel_rfl) (fun _ _ _ h => h) (Or.inl ⟨by rfl, ?_⟩) (by assumption) ?_
            rotate_left
            · (intro wx hSw; (try dsimp only at hSw); go_simp; (try with_reducible rfl))
            (try simp only [Act.put, List.setIfInBounds_toArray, List.set_cons_zero, List.set_cons_succ])
            refine wpAnyM_take 8 (v := ?_) rfl (by kernel_rfl) (fun _ _ _ h => h) (Or.inl ⟨by rfl, ?_⟩) (by assumption) ?_
            rotate_left
            · (intro wx hSw; (try dsimp only at hSw); go_simp; (try with_reducible rfl))
            (try simp only [Act.put, List.setIfInBounds_toArray, List.set_cons_zero, List.set_cons_succ])
            refine wpAnyM_take 9 (v := ?_) rfl (by kernel_rfl) (fun _ _ _ h => h) (Or.inl ⟨by rfl, ?_⟩) (by assumption) ?_
            rotate_left
            · (intro wx hSw; (try dsimp only at hSw); go_simp; (try with_reducible rfl))
            (try simp only [Act.put, List.setIfInBounds_toArray, List.set_cons_zero, List.set_cons_succ])
            refine wpAnyM_take 10 (v := ?_) rfl (by kernel_rfl) (fun _ _ _ h => h) (Or.inl ⟨by rfl, ?_⟩) (by assumption) ?_
            rotate_left
            · (intro wx hSw; (try dsimp only at hSw); go_simp; (try with_reducible rfl))
            (try simp only [Act.put, List.setIfInBounds_toArray, List.set_cons_zero, List.set_cons_succ])
            have HX := Lib.hid (blk_ne2 HR.out.1 HA.out.1 (by decide)); have HE := Lib.hid (And.intro (HR.out.1.setRow_other (arrv 24 SN) HX.out) HR.out.2); have HV2 := Lib.hid (And.intro (HV.out.1.row2 (arrv 24 SN) N8.out) HV.out.2); clear HV; have HV := HV2; clear HV2; have HS2 := Lib.hid (HS.out.row HA.out.2 (arrv 24 SN)); clear HS; have HS := HS2; clear HS2; have HB := Lib.hid (And.intro (HA.out.1.setRow SN) HA.out.2)
            clear hHeld
            refine wpAnyM_doneS 13 rfl (by kernel_rfl) (by rfl) (run_store_row 23 (.tmp 8) (.tmp 32) rfl _ rfl rfl HA.out.1 ist) ?_ (fun hHeld => ?_)
            · exact ⟨HS.out.sB, HS.out.pB⟩
            (try simp only [Act.put])
            have HV2 := Lib.hid (And.intro (HV.out.1.row2 (arrv 300 PN) N9.out) HV.out.2); clear HV; have HV := HV2; clear HV2; have HS2 := Lib.hid (HS.out.row HE.out.2 (arrv 300 PN)); clear HS; have HS := HS2; clear HS2; have HB2 := Lib.hid (And.intro (HB.out.1.setRow_other (arrv 300 PN) (fun e => HX.out e.symm)) HB.out.2); clear HB; have HB := HB2; clear HB2; have HC := Lib.hid (And.intro (HE.out.1.setRow PN) HE.out.2)
            clear hHeld
            refine wpAnyM_doneS 14 rfl (by kernel_rfl) (by rfl) (run_store_row 26 (.tmp 9) (.tmp 33) rfl _ rfl rfl HE.out.1 icov) ?_ (fun hHeld => ?_)
            · exact ⟨HS.out.sB, HS.out.pB⟩
            (try simp only [Act.put])
            refine wpAnyM_one 15 rfl (by kernel_rfl) (fun K hK => ?_)
            go_simp
            refine hK.out _ _ (.inl (by kernel_rfl)) (fun _ => ?_)
            clear hK K
            (try simp only [Act.put, List.setIfInBounds_toArray, List.set_cons_zero, List.set_cons_succ])
            refine wpAnyM_done (by kernel_rfl) ?_ _
            (go_wp2_with fail; obtain ⟨q3, cp3, hvq, hr⟩ := HV.out.1.toldG (lo := bc) (by have := HV.out.2; omega); (rw [hvq]); clear hvq; go_meet; exact ⟨_, _, _, _, rfl, rfl, rfl, Lib.hid ⟨HS.out, HB.out, HC.out, hr⟩⟩)
      · go_simp; have HA := Lib.hid (mn_st HS.out _ (by first | (simp; rfl) | rfl)); (try (have N8 := Lib.hid (ownr_n HV.out.1 (by first | (simp; rfl) | rfl)); have HV2 := Lib.hid (And.intro (HV.out.1.alloc (.cells #[.int .i64 0, .int .i64 0, .int .i64 0, .int .i64 0, .int .i64 0, .int .i64 0, .int .i64 0, .int .i64 0, .int .i64 0, .int .i64 0, .int .i64 0, .int .i64 0, .int .i64 0, .int .i64 0, .int .i64 0, .int .i64 0, .int .i64 0, .int .i64 0, .int .i64 0, .int .i64 0, .int .i64 0, .int .i64 0, .int .i64 0, .int .i64 0] 23)) HV.out.2); clear HV; have HV := HV2; clear HV2)); have HS2 := Lib.hid (HS.out.alloc (.cells #[.int .i64 0, .int .i64 0, .int .i64 0, .int .i64 0, .int .i64 0, .int .i64 0, .int .i64 0, .int .i64 0, .int .i64 0, .int .i64 0, .int .i64 0, .int .i64 0, .int .i64 0, .int .i64 0, .int .i64 0, .int .i64 0, .int .i64 0, .int .i64 0, .int .i64 0, .int .i64 0, .int .i64 0, .int .i64 0, .int .i64 0, .int .i64 0] 23)); clear HS; have HS := HS2; clear HS2; (try (have HR2 := Lib.hid (And.intro (HR.out.1.alloc (.cells #[.int .i64 0, .int .i64 0, .int .i64 0, .int .i64 0, .int .i64 0, .int .i64 0, .int .i64 0, .int .i64 0, .int .i64 0, .int .i64 0, .int .i64 0, .int .i64 0, .int .i64 0, .int .i64 0, .int .i64 0, .int .i64 0, .int .i64 0, .int .i64 0, .int .i64 0, .int .i64 0, .int .i64 0, .int .i64 0, .int .i64 0, .int .i64 0] 23)) HR.out.2); clear HR; have HR := HR2; clear HR2)); (try (have HQ2 := Lib.hid (HQ.out.below (Below.alloc (Below.refl _ _) (Nat.le_refl _) (.cells #[.int .i64 0, .int .i64 0, .int .i64 0, .int .i64 0, .int .i64 0, .int .i64 0, .int .i64 0, .int .i64 0, .int .i64 0, .int .i64 0, .int .i64 0, .int .i64 0, .int .i64 0, .int .i64 0, .int .i64 0, .int .i64 0, .int .i64 0, .int .i64 0, .int .i64 0, .int .i64 0, .int .i64 0, .int .i64 0, .int .i64 0, .int .i64 0] 23))); clear HQ; have HQ := HQ2; clear HQ2))
        clear hHeld
        refine hK.out _ _ ?_ (fun hHeld => ?_)
        · exact ⟨HS.out.sB, HS.out.pB⟩
        clear hK K
        (try simp only [Act.put, List.setIfInBounds_toArray, List.set_cons_zero, List.set_cons_succ])
        refine wpAnyM_twoS 5 12 rfl rfl (by kernel_rfl) (fun K hK => ?_) (fun K hK => ?_)
        · refine if_pos_of (by rfl) (wp_appAll_obs (.tmp 28) (.tmp 29) rfl _ q n cp O rfl rfl (HL.out.below HS.out.below) HZ.out n6 ?_); intro q2 cp2 w6 hb6 hm6; have HQ := Lib.hid hm6; have HS2 := Lib.hid (HS.out.down hb6); clear HS; have HS := HS2; clear HS2; (try (have HA2 := Lib.hid (And.intro (HA.out.1.below hb6) HA.out.2); clear HA; have HA := HA2; clear HA2)); (try (have HR2 := Lib.hid (And.intro (HR.out.1.below hb6) HR.out.2); clear HR; have HR := HR2; clear HR2)); clear hb6 hm6
          clear hHeld
          refine hK.out _ _ ?_ (fun hHeld => ?_)
          · exact ⟨HS.out.sB, HS.out.pB⟩
          clear hK K
          (try simp only [Act.put, List.setIfInBounds_toArray, List.set_cons_zero, List.set_cons_succ])
          refine wpAnyM_twoS 6 12 rfl rfl (by kernel_rfl) (fun K hK => ?_) (fun K hK => ?_)
          · go_simp
            (refine (AL.out _ HS.out.flg.cell HS.out.flg.free _ _ HQ.out).mono ?_); rintro e w7 ⟨v, rfl, hu7, hv7⟩; (try (have N8 := Lib.hid (ownr_a HA.out.1 hv7 (rfl : (0 : Nat) = 0)))); (try (have N9 := Lib.hid (ownr_a HR.out.1 hv7 (rfl : (0 : Nat) = 0)))); have HV := Lib.hid (And.intro hv7 HS.out.flg.lt); (try (have HA2 := Lib.hid (And.intro (HA.out.1.upd hu7 (by have := HA.out.2; simp; omega)) HA.out.2); clear HA; have HA := HA2; clear HA2)); (try (have HR2 := Lib.hid (And.intro (HR.out.1.upd hu7 (by have := HR.out.2; simp; omega)) HR.out.2); clear HR; have HR := HR2; clear HR2)); have HS2 := Lib.hid (HS.out.upd hu7); clear HS; have HS := HS2; clear HS2 HQ; clear hu7 hv7
            (try dsimp only)
            (try simp only [Act.put, List.setIfInBounds_toArray, List.set_cons_zero, List.set_cons_succ])
            clear hHeld
            refine hK.out _ _ ?_ (fun hHeld => ?_)
            · exact ⟨HS.out.sB, HS.out.pB⟩
            clear hK K
            (try simp only [Act.put, List.setIfInBounds_toArray, List.set_cons_zero, List.set_cons_succ])
            refine wpAnyM_take 7 (v := ?_) rfl (by kernel_rfl) (fun _ _ _ h => h) (Or.inl ⟨by rfl, ?_⟩) (by assumption) ?_
            rotate_left
            · (intro wx hSw; (try dsimp only at hSw); go_simp; (try with_reducible rfl))
            (try simp only [Act.put, List.setIfInBounds_toArray, List.set_cons_zero, List.set_cons_succ])
            refine wpAnyM_take 8 (v := ?_) rfl (by kernel_rfl) (fun _ _ _ h => h) (Or.inl ⟨by rfl, ?_⟩) (by assumption) ?_
            rotate_left
            · (intro wx hSw; (try dsimp only at hSw); go_simp; (try with_reducible rfl))
            (try simp only [Act.put, List.setIfInBounds_toArray, List.set_cons_zero, List.set_cons_succ])
            refine wpAnyM_take 9 (v := ?_) rfl (by kernel_rfl) (fun _ _ _ h => h) (Or.inl ⟨by rfl, ?_⟩) (by assumption) ?_
            rotate_left
            · (intro wx hSw; (try dsimp only at hSw); go_simp; (try with_reducible rfl))
            (try simp only [Act.put, List.setIfInBounds_toArray, List.set_cons_zero, List.set_cons_succ])
            refine wpAnyM_take 10 (v := ?_) rfl (by kernel_rfl) (fun _ _ _ h => h) (Or.inl ⟨by rfl, ?_⟩) (by assumption) ?_
            rotate_left
            · (intro wx hSw; (try dsimp only at hSw); go_simp; (try with_reducible rfl))
            (try simp only [Act.put, List.setIfInBounds_toArray, List.set_cons_zero, List.set_cons_succ])
            refine wpAnyM_oneS 12 rfl (by kernel_rfl) (fun K hK => ?_)
            go_simp; have HR := Lib.hid (mn_cov HS.out _ (by first | (simp; rfl) | rfl)); (try (have N9 := Lib.hid (ownr_n HV.out.1 (by first | (simp; rfl) | rfl)); have HV2 := Lib.hid (And.intro (HV.out.1.alloc (.cells Try.zeroCells26 26)) HV.out.2); clear HV; have HV := HV2; clear HV2)); have HS2 := Lib.hid (HS.out.alloc (.cells Try.zeroCells26 26)); clear HS; have HS := HS2; clear HS2; (try (have HA2 := Lib.hid (And.intro (HA.out.1.alloc (.cells Try.zeroCells26 26)) HA.out.2); clear HA; have HA := HA2; clear HA2)); (try (have HQ2 := Lib.hid (HQ.out.below (Below.alloc (Below.refl _ _) (Nat.le_refl _) (.cells Try.zeroCells26 26))); clear HQ; have HQ := HQ2; clear HQ2))
            clear hHeld
            refine hK.out _ _ ?_ (fun hHeld => ?_)
            · exact ⟨HS.out.sB, HS.out.pB⟩
            clear hK K
            (try simp only [Act.put, List.setIfInBounds_toArray, List.set_cons_zero, List.set_cons_succ])
            have HX := Lib.hid (blk_ne2 HR.out.1 HA.out.1 (by decide)); have HE := Lib.hid (And.intro (HR.out.1.setRow_other (arrv 24 SN) HX.out) HR.out.2); have HV2 := Lib.hid (And.intro (HV.out.1.row2 (arrv 24 SN) N8.out) HV.out.2); clear HV; have HV := HV2; clear HV2; have HS2 := Lib.hid (HS.out.row HA.out.2 (arrv 24 SN)); clear HS; have HS := HS2; clear HS2; have HB := Lib.hid (And.intro (HA.out.1.setRow SN) HA.out.2)
            clear hHeld
            refine wpAnyM_doneS 13 rfl (by kernel_rfl) (by rfl) (run_store_row 23 (.tmp 8) (.tmp 32) rfl _ rfl rfl HA.out.1 ist) ?_ (fun hHeld => ?_)
            · exact ⟨HS.out.sB, HS.out.pB⟩
            (try simp only [Act.put])
            have HV2 := Lib.hid (And.intro (HV.out.1.row2 (arrv 300 PN) N9.out) HV.out.2); clear HV; have HV := HV2; clear HV2; have HS2 := Lib.hid (HS.out.row HE.out.2 (arrv 300 PN)); clear HS; have HS := HS2; clear HS2; have HB2 := Lib.hid (And.intro (HB.out.1.setRow_other (arrv 300 PN) (fun e => HX.out e.symm)) HB.out.2); clear HB; have HB := HB2; clear HB2; have HC := Lib.hid (And.intro (HE.out.1.setRow PN) HE.out.2)
            clear hHeld
            refine wpAnyM_doneS 14 rfl (by kernel_rfl) (by rfl) (run_store_row 26 (.tmp 9) (.tmp 33) rfl _ rfl rfl HE.out.1 icov) ?_ (fun hHeld => ?_)
            · exact ⟨HS.out.sB, HS.out.pB⟩
            (try simp only [Act.put])
            refine wpAnyM_one 15 rfl (by kernel_rfl) (fun K hK => ?_)
            go_simp
            refine hK.out _ _ (.inl (by kernel_rfl)) (fun _ => ?_)
            clear hK K
            (try simp only [Act.put, List.setIfInBounds_toArray, List.set_cons_zero, List.set_cons_succ])
            refine wpAnyM_done (by kernel_rfl) ?_ _
            (go_wp2_with fail; obtain ⟨q3, cp3, hvq, hr⟩ := HV.out.1.toldG (lo := bc) (by have := HV.out.2; omega); (rw [hvq]); clear hvq; go_meet; exact ⟨_, _, _, _, rfl, rfl, rfl, Lib.hid ⟨HS.out, HB.out, HC.out, hr⟩⟩)
          · go_simp; have HR := Lib.hid (mn_cov HS.out _ (by first | (simp; rfl) | rfl)); (try (have N9 := Lib.hid (ownr_n HV.out.1 (by first | (simp; rfl) | rfl)); have HV2 := Lib.hid (And.intro (HV.out.1.alloc (.cells Try.zeroCells26 26)) HV.out.2); clear HV; have HV := HV2; clear HV2)); have HS2 := Lib.hid (HS.out.alloc (.cells Try.zeroCells26 26)); clear HS; have HS := HS2; clear HS2; (try (have HA2 := Lib.hid (And.intro (HA.out.1.alloc (.cells Try.zeroCells26 26)) HA.out.2); clear HA; have HA := HA2; clear HA2)); (try (have HQ2 := Lib.hid (HQ.out.below (Below.alloc (Below.refl _ _) (Nat.le_refl _) (.cells Try.zeroCells26 26))); clear HQ; have HQ := HQ2; clear HQ2))
            clear hHeld
            refine hK.out _ _ ?_ (fun hHeld => ?_)
            · exact ⟨HS.out.sB, HS.out.pB⟩
            clear hK K
            (try simp only [Act.put, List.setIfInBounds_toArray, List.set_cons_zero, List.set_cons_succ])
            refine wpAnyM_oneS 6 rfl (by kernel_rfl) (fun K hK => ?_)
            go_simp
            (refine (AL.out _ HS.out.flg.cell HS.out.flg.free _ _ HQ.out).mono ?_); rintro e w7 ⟨v, rfl, hu7, hv7⟩; (try (have N8 := Lib.hid (ownr_a HA.out.1 hv7 (rfl : (0 : Nat) = 0)))); (try (have N9 := Lib.hid (ownr_a HR.out.1 hv7 (rfl : (0 : Nat) = 0)))); have HV := Lib.hid (And.intro hv7 HS.out.flg.lt); (try (have HA2 := Lib.hid (And.intro (HA.out.1.upd hu7 (by have := HA.out.2; simp; omega)) HA.out.2); clear HA; have HA := HA2; clear HA2)); (try (have HR2 := Lib.hid (And.intro (HR.out.1.upd hu7 (by have := HR.out.2; simp; omega)) HR.out.2); clear HR; have HR := HR2; clear HR2)); have HS2 := Lib.hid (HS.out.upd hu7); clear HS; have HS := HS2; clear HS2 HQ; clear hu7 hv7
            (try dsimp only)
            (try simp only [Act.put, List.setIfInBounds_toArray, List.set_cons_zero, List.set_cons_succ])
            clear hHeld
            refine hK.out _ _ ?_ (fun hHeld => ?_)
            · exact ⟨HS.out.sB, HS.out.pB⟩
            clear hK K
            (try simp only [Act.put, List.setIfInBounds_toArray, List.set_cons_zero, List.set_cons_succ])
            refine wpAnyM_take 7 (v := ?_) rfl (by kernel_rfl) (fun _ _ _ h => h) (Or.inl ⟨by rfl, ?_⟩) (by assumption) ?_
            rotate_left
            · (intro wx hSw; (try dsimp only at hSw); go_simp; (try with_reducible rfl))
            (try simp only [Act.put, List.setIfInBounds_toArray, List.set_cons_zero, List.set_cons_succ])
            refine wpAnyM_take 8 (v := ?_) rfl (by kernel_rfl) (fun _ _ _ h => h) (Or.inl ⟨by rfl, ?_⟩) (by assumption) ?_
            rotate_left
            · (intro wx hSw; (try dsimp only at hSw); go_simp; (try with_reducible rfl))
            (try simp only [Act.put, List.setIfInBounds_toArray, List.set_cons_zero, List.set_cons_succ])
            refine wpAnyM_take 9 (v := ?_) rfl (by kernel_rfl) (fun _ _ _ h => h) (Or.inl ⟨by rfl, ?_⟩) (by assumption) ?_
            rotate_left
            · (intro wx hSw; (try dsimp only at hSw); go_simp; (try with_reducible rfl))
            (try simp only [Act.put, List.setIfInBounds_toArray, List.set_cons_zero, List.set_cons_succ])
            refine wpAnyM_take 10 (v := ?_) rfl (by kernel_rfl) (fun _ _ _ h => h) (Or.inl ⟨by rfl, ?_⟩) (by assumption) ?_
            rotate_left
            · (intro wx hSw; (try dsimp only at hSw); go_simp; (try with_reducible rfl))
            (try simp only [Act.put, List.setIfInBounds_toArray, List.set_cons_zero, List.set_cons_succ])
            have HX := Lib.hid (blk_ne2 HR.out.1 HA.out.1 (by decide)); have HE := Lib.hid (And.intro (HR.out.1.setRow_other (arrv 24 SN) HX.out) HR.out.2); have HV2 := Lib.hid (And.intro (HV.out.1.row2 (arrv 24 SN) N8.out) HV.out.2); clear HV; have HV := HV2; clear HV2; have HS2 := Lib.hid (HS.out.row HA.out.2 (arrv 24 SN)); clear HS; have HS := HS2; clear HS2; have HB := Lib.hid (And.intro (HA.out.1.setRow SN) HA.out.2)
            clear hHeld
            refine wpAnyM_doneS 13 rfl (by kernel_rfl) (by rfl) (run_store_row 23 (.tmp 8) (.tmp 32) rfl _ rfl rfl HA.out.1 ist) ?_ (fun hHeld => ?_)
            · exact ⟨HS.out.sB, HS.out.pB⟩
            (try simp only [Act.put])
            have HV2 := Lib.hid (And.intro (HV.out.1.row2 (arrv 300 PN) N9.out) HV.out.2); clear HV; have HV := HV2; clear HV2; have HS2 := Lib.hid (HS.out.row HE.out.2 (arrv 300 PN)); clear HS; have HS := HS2; clear HS2; have HB2 := Lib.hid (And.intro (HB.out.1.setRow_other (arrv 300 PN) (fun e => HX.out e.symm)) HB.out.2); clear HB; have HB := HB2; clear HB2; have HC := Lib.hid (And.intro (HE.out.1.setRow PN) HE.out.2)
            clear hHeld
            refine wpAnyM_doneS 14 rfl (by kernel_rfl) (by rfl) (run_store_row 26 (.tmp 9) (.tmp 33) rfl _ rfl rfl HE.out.1 icov) ?_ (fun hHeld => ?_)
            · exact ⟨HS.out.sB, HS.out.pB⟩
            (try simp only [Act.put])
            refine wpAnyM_one 15 rfl (by kernel_rfl) (fun K hK => ?_)
            go_simp
            refine hK.out _ _ (.inl (by kernel_rfl)) (fun _ => ?_)
            clear hK K
            (try simp only [Act.put, List.setIfInBounds_toArray, List.set_cons_zero, List.set_cons_succ])
            refine wpAnyM_done (by kernel_rfl) ?_ _
            (go_wp2_with fail; obtain ⟨q3, cp3, hvq, hr⟩ := HV.out.1.toldG (lo := bc) (by have := HV.out.2; omega); (rw [hvq]); clear hvq; go_meet; exact ⟨_, _, _, _, rfl, rfl, rfl, Lib.hid ⟨HS.out, HB.out, HC.out, hr⟩⟩)
        · go_simp; have HR := Lib.hid (mn_cov HS.out _ (by first | (simp; rfl) | rfl)); (try (have N9 := Lib.hid (ownr_n HV.out.1 (by first | (simp; rfl) | rfl)); have HV2 := Lib.hid (And.intro (HV.out.1.alloc (.cells Try.zeroCells26 26)) HV.out.2); clear HV; have HV := HV2; clear HV2)); have HS2 := Lib.hid (HS.out.alloc (.cells Try.zeroCells26 26)); clear HS; have HS := HS2; clear HS2; (try (have HA2 := Lib.hid (And.intro (HA.out.1.alloc (.cells Try.zeroCells26 26)) HA.out.2); clear HA; have HA := HA2; clear HA2)); (try (have HQ2 := Lib.hid (HQ.out.below (Below.alloc (Below.refl _ _) (Nat.le_refl _) (.cells Try.zeroCells26 26))); clear HQ; have HQ := HQ2; clear HQ2))
          clear hHeld
          refine hK.out _ _ ?_ (fun hHeld => ?_)
          · exact ⟨HS.out.sB, HS.out.pB⟩
          clear hK K
          (try simp only [Act.put, List.setIfInBounds_toArray, List.set_cons_zero, List.set_cons_succ])
          refine wpAnyM_oneS 5 rfl (by kernel_rfl) (fun K hK => ?_)
          refine if_pos_of (by rfl) (wp_appAll_obs (.tmp 28) (.tmp 29) rfl _ q n cp O rfl rfl (HL.out.below HS.out.below) HZ.out n6 ?_); intro q2 cp2 w6 hb6 hm6; have HQ := Lib.hid hm6; have HS2 := Lib.hid (HS.out.down hb6); clear HS; have HS := HS2; clear HS2; (try (have HA2 := Lib.hid (And.intro (HA.out.1.below hb6) HA.out.2); clear HA; have HA := HA2; clear HA2)); (try (have HR2 := Lib.hid (And.intro (HR.out.1.below hb6) HR.out.2); clear HR; have HR := HR2; clear HR2)); clear hb6 hm6
          clear hHeld
          refine hK.out _ _ ?_ (fun hHeld => ?_)
          · exact ⟨HS.out.sB, HS.out.pB⟩
          clear hK K
          (try simp only [Act.put, List.setIfInBounds_toArray, List.set_cons_zero, List.set_cons_succ])
          refine wpAnyM_oneS 6 rfl (by kernel_rfl) (fun K hK => ?_)
          go_simp
          (refine (AL.out _ HS.out.flg.cell HS.out.flg.free _ _ HQ.out).mono ?_); rintro e w7 ⟨v, rfl, hu7, hv7⟩; (try (have N8 := Lib.hid (ownr_a HA.out.1 hv7 (rfl : (0 : Nat) = 0)))); (try (have N9 := Lib.hid (ownr_a HR.out.1 hv7 (rfl : (0 : Nat) = 0)))); have HV := Lib.hid (And.intro hv7 HS.out.flg.lt); (try (have HA2 := Lib.hid (And.intro (HA.out.1.upd hu7 (by have := HA.out.2; simp; omega)) HA.out.2); clear HA; have HA := HA2; clear HA2)); (try (have HR2 := Lib.hid (And.intro (HR.out.1.upd hu7 (by have := HR.out.2; simp; omega)) HR.out.2); clear HR; have HR := HR2; clear HR2)); have HS2 := Lib.hid (HS.out.upd hu7); clear HS; have HS := HS2; clear HS2 HQ; clear hu7 hv7
          (try dsimp only)
          (try simp only [Act.put, List.setIfInBounds_toArray, List.set_cons_zero, List.set_cons_succ])
          clear hHeld
          refine hK.out _ _ ?_ (fun hHeld => ?_)
          · exact ⟨HS.out.sB, HS.out.pB⟩
          clear hK K
          (try simp only [Act.put, List.setIfInBounds_toArray, List.set_cons_zero, List.set_cons_succ])
          refine wpAnyM_take 7 (v := ?_) rfl (by kernel_rfl) (fun _ _ _ h => h) (Or.inl ⟨by rfl, ?_⟩) (by assumption) ?_
          rotate_left
          · (intro wx hSw; (try dsimp only at hSw); go_simp; (try with_reducible rfl))
          (try simp only [Act.put, List.setIfInBounds_toArray, List.set_cons_zero, List.set_cons_succ])
          refine wpAnyM_take 8 (v := ?_) rfl (by kernel_rfl) (fun _ _ _ h => h) (Or.inl ⟨by rfl, ?_⟩) (by assumption) ?_
          rotate_left
          · (intro wx hSw; (try dsimp only at hSw); go_simp; (try with_reducible rfl))
          (try simp only [Act.put, List.setIfInBounds_toArray, List.set_cons_zero, List.set_cons_succ])
          refine wpAnyM_take 9 (v := ?_) rfl (by kernel_rfl) (fun _ _ _ h => h) (Or.inl ⟨by rfl, ?_⟩) (by assumption) ?_
          rotate_left
          · (intro wx hSw; (try dsimp only at hSw); go_simp; (try with_reducible rfl))
          (try simp only [Act.put, List.setIfInBounds_toArray, List.set_cons_zero, List.set_cons_succ])
          refine wpAnyM_take 10 (v := ?_) rfl (by kernel_rfl) (fun _ _ _ h => h) (Or.inl ⟨by rfl, ?_⟩) (by assumption) ?_
          rotate_left
          · (intro wx hSw; (try dsimp only at hSw); go_simp; (try with_reducible rfl))
          (try simp only [Act.put, List.setIfInBounds_toArray, List.set_cons_zero, List.set_cons_succ])
          have HX := Lib.hid (blk_ne2 HR.out.1 HA.out.1 (by decide)); have HE := Lib.hid (And.intro (HR.out.1.setRow_other (arrv 24 SN) HX.out) HR.out.2); have HV2 := Lib.hid (And.intro (HV.out.1.row2 (arrv 24 SN) N8.out) HV.out.2); clear HV; have HV := HV2; clear HV2; have HS2 := Lib.hid (HS.out.row HA.out.2 (arrv 24 SN)); clear HS; have HS := HS2; clear HS2; have HB := Lib.hid (And.intro (HA.out.1.setRow SN) HA.out.2)
          clear hHeld
          refine wpAnyM_doneS 13 rfl (by kernel_rfl) (by rfl) (run_store_row 23 (.tmp 8) (.tmp 32) rfl _ rfl rfl HA.out.1 ist) ?_ (fun hHeld => ?_)
          · exact ⟨HS.out.sB, HS.out.pB⟩
          (try simp only [Act.put])
          have HV2 := Lib.hid (And.intro (HV.out.1.row2 (arrv 300 PN) N9.out) HV.out.2); clear HV; have HV := HV2; clear HV2; have HS2 := Lib.hid (HS.out.row HE.out.2 (arrv 300 PN)); clear HS; have HS := HS2; clear HS2; have HB2 := Lib.hid (And.intro (HB.out.1.setRow_other (arrv 300 PN) (fun e => HX.out e.symm)) HB.out.2); clear HB; have HB := HB2; clear HB2; have HC := Lib.hid (And.intro (HE.out.1.setRow PN) HE.out.2)
          clear hHeld
          refine wpAnyM_doneS 14 rfl (by kernel_rfl) (by rfl) (run_store_row 26 (.tmp 9) (.tmp 33) rfl _ rfl rfl HE.out.1 icov) ?_ (fun hHeld => ?_)
          · exact ⟨HS.out.sB, HS.out.pB⟩
          (try simp only [Act.put])
          refine wpAnyM_one 15 rfl (by kernel_rfl) (fun K hK => ?_)
          go_simp
          refine hK.out _ _ (.inl (by kernel_rfl)) (fun _ => ?_)
          clear hK K
          (try simp only [Act.put, List.setIfInBounds_toArray, List.set_cons_zero, List.set_cons_succ])
          refine wpAnyM_done (by kernel_rfl) ?_ _
          (go_wp2_with fail; obtain ⟨q3, cp3, hvq, hr⟩ := HV.out.1.toldG (lo := bc) (by have := HV.out.2; omega); (rw [hvq]); clear hvq; go_meet; exact ⟨_, _, _, _, rfl, rfl, rfl, Lib.hid ⟨HS.out, HB.out, HC.out, hr⟩⟩)
      · go_simp; have HR := Lib.hid (mn_cov HS.out _ (by first | (simp; rfl) | rfl)); (try (have N9 := Lib.hid (ownr_n HV.out.1 (by first | (simp; rfl) | rfl)); have HV2 := Lib.hid (And.intro (HV.out.1.alloc (.cells Try.zeroCells26 26)) HV.out.2); clear HV; have HV := HV2; clear HV2)); have HS2 := Lib.hid (HS.out.alloc (.cells Try.zeroCells26 26)); clear HS; have HS := HS2; clear HS2; (try (have HA2 := Lib.hid (And.intro (HA.out.1.alloc (.cells Try.zeroCells26 26)) HA.out.2); clear HA; have HA := HA2; clear HA2)); (try (have HQ2 := Lib.hid (HQ.out.below (Below.alloc (Below.refl _ _) (Nat.le_refl _) (.cells Try.zeroCells26 26))); clear HQ; have HQ := HQ2; clear HQ2))
        clear hHeld
        refine hK.out _ _ ?_ (fun hHeld => ?_)
        · exact ⟨HS.out.sB, HS.out.pB⟩
        clear hK K
        (try simp only [Act.put, List.setIfInBounds_toArray, List.set_cons_zero, List.set_cons_succ])
        refine wpAnyM_twoS 5 11 rfl rfl (by kernel_rfl) (fun K hK => ?_) (fun K hK => ?_)
        · refine if_pos_of (by rfl) (wp_appAll_obs (.tmp 28) (.tmp 29) rfl _ q n cp O rfl rfl (HL.out.below HS.out.below) HZ.out n6 ?_); intro q2 cp2 w6 hb6 hm6; have HQ := Lib.hid hm6; have HS2 := Lib.hid (HS.out.down hb6); clear HS; have HS := HS2; clear HS2; (try (have HA2 := Lib.hid (And.intro (HA.out.1.below hb6) HA.out.2); clear HA; have HA := HA2; clear HA2)); (try (have HR2 := Lib.hid (And.intro (HR.out.1.below hb6) HR.out.2); clear HR; have HR := HR2; clear HR2)); clear hb6 hm6
          clear hHeld
          refine hK.out _ _ ?_ (fun hHeld => ?_)
          · exact ⟨HS.out.sB, HS.out.pB⟩
          clear hK K
          (try simp only [Act.put, List.setIfInBounds_toArray, List.set_cons_zero, List.set_cons_succ])
          refine wpAnyM_twoS 6 11 rfl rfl (by kernel_rfl) (fun K hK => ?_) (fun K hK => ?_)
          · go_simp
            (refine (AL.out _ HS.out.flg.cell HS.out.flg.free _ _ HQ.out).mono ?_); rintro e w7 ⟨v, rfl, hu7, hv7⟩; (try (have N8 := Lib.hid (ownr_a HA.out.1 hv7 (rfl : (0 : Nat) = 0)))); (try (have N9 := Lib.hid (ownr_a HR.out.1 hv7 (rfl : (0 : Nat) = 0)))); have HV := Lib.hid (And.intro hv7 HS.out.flg.lt); (try (have HA2 := Lib.hid (And.intro (HA.out.1.upd hu7 (by have := HA.out.2; simp; omega)) HA.out.2); clear HA; have HA := HA2; clear HA2)); (try (have HR2 := Lib.hid (And.intro (HR.out.1.upd hu7 (by have := HR.out.2; simp; omega)) HR.out.2); clear HR; have HR := HR2; clear HR2)); have HS2 := Lib.hid (HS.out.upd hu7); clear HS; have HS := HS2; clear HS2 HQ; clear hu7 hv7
            (try dsimp only)
            (try simp only [Act.put, List.setIfInBounds_toArray, List.set_cons_zero, List.set_cons_succ])
            clear hHeld
            refine hK.out _ _ ?_ (fun hHeld => ?_)
            · exact ⟨HS.out.sB, HS.out.pB⟩
            clear hK K
            (try simp only [Act.put, List.setIfInBounds_toArray, List.set_cons_zero, List.set_cons_succ])
            refine wpAnyM_take 7 (v := ?_) rfl (by kernel_rfl) (fun _ _ _ h => h) (Or.inl ⟨by rfl, ?_⟩) (by assumption) ?_
            rotate_left
            · (intro wx hSw; (try dsimp only at hSw); go_simp; (try with_reducible rfl))
            (try simp only [Act.put, List.setIfInBounds_toArray, List.set_cons_zero, List.set_cons_succ])
            refine wpAnyM_take 8 (v := ?_) rfl (by kernel_rfl) (fun _ _ _ h => h) (Or.inl ⟨by rfl, ?_⟩) (by assumption) ?_
            rotate_left
            · (intro wx hSw; (try dsimp only at hSw); go_simp; (try with_reducible rfl))
            (try simp only [Act.put, List.setIfInBounds_toArray, List.set_cons_zero, List.set_cons_succ])
            refine wpAnyM_take 9 (v := ?_) rfl (by kernel_rfl) (fun _ _ _ h => h) (Or.inl ⟨by rfl, ?_⟩) (by assumption) ?_
            rotate_left
            · (intro wx hSw; (try dsimp only at hSw); go_simp; (try with_reducible rfl))
            (try simp only [Act.put, List.setIfInBounds_toArray, List.set_cons_zero, List.set_cons_succ])
            refine wpAnyM_take 10 (v := ?_) rfl (by kernel_rfl) (fun _ _ _ h => h) (Or.inl ⟨by rfl, ?_⟩) (by assumption) ?_
            rotate_left
            · (intro wx hSw; (try dsimp only at hSw); go_simp; (try with_reducible rfl))
            (try simp only [Act.put, List.setIfInBounds_toArray, List.set_cons_zero, List.set_cons_succ])
            refine wpAnyM_oneS 11 rfl (by kernel_rfl) (fun K hK => ?_)
            go_simp; have HA := Lib.hid (mn_st HS.out _ (by first | (simp; rfl) | rfl)); (try (have N8 := Lib.hid (ownr_n HV.out.1 (by first | (simp; rfl) | rfl)); have HV2 := Lib.hid (And.intro (HV.out.1.alloc (.cells #[.int .i64 0, .int .i64 0, .int .i64 0, .int .i64 0, .int .i64 0, .int .i64 0, .int .i64 0, .int .i64 0, .int .i64 0, .int .i64 0, .int .i64 0, .int .i64 0, .int .i64 0, .int .i64 0, .int .i64 0, .int .i64 0, .int .i64 0, .int .i64 0, .int .i64 0, .int .i64 0, .int .i64 0, .int .i64 0, .int .i64 0, .int .i64 0] 23)) HV.out.2); clear HV; have HV := HV2; clear HV2)); have HS2 := Lib.hid (HS.out.alloc (.cells #[.int .i64 0, .int .i64 0, .int .i64 0, .int .i64 0, .int .i64 0, .int .i64 0, .int .i64 0, .int .i64 0, .int .i64 0, .int .i64 0, .int .i64 0, .int .i64 0, .int .i64 0, .int .i64 0, .int .i64 0, .int .i64 0, .int .i64 0, .int .i64 0, .int .i64 0, .int .i64 0, .int .i64 0, .int .i64 0, .int .i64 0, .int .i64 0] 23)); clear HS; have HS := HS2; clear HS2; (try (have HR2 := Lib.hid (And.intro (HR.out.1.alloc (.cells #[.int .i64 0, .int .i64 0, .int .i64 0, .int .i64 0, .int .i64 0, .int .i64 0, .int .i64 0, .int .i64 0, .int .i64 0, .int .i64 0, .int .i64 0, .int .i64 0, .int .i64 0, .int .i64 0, .int .i64 0, .int .i64 0, .int .i64 0, .int .i64 0, .int .i64 0, .int .i64 0, .int .i64 0, .int .i64 0, .int .i64 0, .int .i64 0] 23)) HR.out.2); clear HR; have HR := HR2; clear HR2)); (try (have HQ2 := Lib.hid (HQ.out.below (Below.alloc (Below.refl _ _) (Nat.le_refl _) (.cells #[.int .i64 0, .int .i64 0, .int .i64 0, .int .i64 0, .int .i64 0, .int .i64 0, .int .i64 0, .int .i64 0, .int .i64 0, .int .i64 0, .int .i64 0, .int .i64 0, .int .i64 0, .int .i64 0, .int .i64 0, .int .i64 0, .int .i64 0, .int .i64 0, .int .i64 0, .int .i64 0, .int .i64 0, .int .i64 0, .int .i64 0, .int .i64 0] 23))); clear HQ; have HQ := HQ2; clear HQ2))
            clear hHeld
            refine hK.out _ _ ?_ (fun hHeld => ?_)
            · exact ⟨HS.out.sB, HS.out.pB⟩
            clear hK K
            (try simp only [Act.put, List.setIfInBounds_toArray, List.set_cons_zero, List.set_cons_succ])
            have HX := Lib.hid (blk_ne2 HR.out.1 HA.out.1 (by decide)); have HE := Lib.hid (And.intro (HR.out.1.setRow_other (arrv 24 SN) HX.out) HR.out.2); have HV2 := Lib.hid (And.intro (HV.out.1.row2 (arrv 24 SN) N8.out) HV.out.2); clear HV; have HV := HV2; clear HV2; have HS2 := Lib.hid (HS.out.row HA.out.2 (arrv 24 SN)); clear HS; have HS := HS2; clear HS2; have HB := Lib.hid (And.intro (HA.out.1.setRow SN) HA.out.2)
            clear hHeld
            refine wpAnyM_doneS 13 rfl (by kernel_rfl) (by rfl) (run_store_row 23 (.tmp 8) (.tmp 32) rfl _ rfl rfl HA.out.1 ist) ?_ (fun hHeld => ?_)
            · exact ⟨HS.out.sB, HS.out.pB⟩
            (try simp only [Act.put])
            have HV2 := Lib.hid (And.intro (HV.out.1.row2 (arrv 300 PN) N9.out) HV.out.2); clear HV; have HV := HV2; clear HV2; have HS2 := Lib.hid (HS.out.row HE.out.2 (arrv 300 PN)); clear HS; have HS := HS2; clear HS2; have HB2 := Lib.hid (And.intro (HB.out.1.setRow_other (arrv 300 PN) (fun e => HX.out e.symm)) HB.out.2); clear HB; have HB := HB2; clear HB2; have HC := Lib.hid (And.intro (HE.out.1.setRow PN) HE.out.2)
            clear hHeld
            refine wpAnyM_doneS 14 rfl (by kernel_rfl) (by rfl) (run_store_row 26 (.tmp 9) (.tmp 33) rfl _ rfl rfl HE.out.1 icov) ?_ (fun hHeld => ?_)
            · exact ⟨HS.out.sB, HS.out.pB⟩
            (try simp only [Act.put])
            refine wpAnyM_one 15 rfl (by kernel_rfl) (fun K hK => ?_)
            go_simp
            refine hK.out _ _ (.inl (by kernel_rfl)) (fun _ => ?_)
            clear hK K
            (try simp only [Act.put, List.setIfInBounds_toArray, List.set_cons_zero, List.set_cons_succ])
            refine wpAnyM_done (by kernel_rfl) ?_ _
            (go_wp2_with fail; obtain ⟨q3, cp3, hvq, hr⟩ := HV.out.1.toldG (lo := bc) (by have := HV.out.2; omega); (rw [hvq]); clear hvq; go_meet; exact ⟨_, _, _, _, rfl, rfl, rfl, Lib.hid ⟨HS.out, HB.out, HC.out, hr⟩⟩)
          · go_simp; have HA := Lib.hid (mn_st HS.out _ (by first | (simp; rfl) | rfl)); (try (have N8 := Lib.hid (ownr_n HV.out.1 (by first | (simp; rfl) | rfl)); have HV2 := Lib.hid (And.intro (HV.out.1.alloc (.cells #[.int .i64 0, .int .i64 0, .int .i64 0, .int .i64 0, .int .i64 0, .int .i64 0, .int .i64 0, .int .i64 0, .int .i64 0, .int .i64 0, .int .i64 0, .int .i64 0, .int .i64 0, .int .i64 0, .int .i64 0, .int .i64 0, .int .i64 0, .int .i64 0, .int .i64 0, .int .i64 0, .int .i64 0, .int .i64 0, .int .i64 0, .int .i64 0] 23)) HV.out.2); clear HV; have HV := HV2; clear HV2)); have HS2 := Lib.hid (HS.out.alloc (.cells #[.int .i64 0, .int .i64 0, .int .i64 0, .int .i64 0, .int .i64 0, .int .i64 0, .int .i64 0, .int .i64 0, .int .i64 0, .int .i64 0, .int .i64 0, .int .i64 0, .int .i64 0, .int .i64 0, .int .i64 0, .int .i64 0, .int .i64 0, .int .i64 0, .int .i64 0, .int .i64 0, .int .i64 0, .int .i64 0, .int .i64 0, .int .i64 0] 23)); clear HS; have HS := HS2; clear HS2; (try (have HR2 := Lib.hid (And.intro (HR.out.1.alloc (.cells #[.int .i64 0, .int .i64 0, .int .i64 0, .int .i64 0, .int .i64 0, .int .i64 0, .int .i64 0, .int .i64 0, .int .i64 0, .int .i64 0, .int .i64 0, .int .i64 0, .int .i64 0, .int .i64 0, .int .i64 0, .int .i64 0, .int .i64 0, .int .i64 0, .int .i64 0, .int .i64 0, .int .i64 0, .int .i64 0, .int .i64 0, .int .i64 0] 23)) HR.out.2); clear HR; have HR := HR2; clear HR2)); (try (have HQ2 := Lib.hid (HQ.out.below (Below.alloc (Below.refl _ _) (Nat.le_refl _) (.cells #[.int .i64 0, .int .i64 0, .int .i64 0, .int .i64 0, .int .i64 0, .int .i64 0, .int .i64 0, .int .i64 0, .int .i64 0, .int .i64 0, .int .i64 0, .int .i64 0, .int .i64 0, .int .i64 0, .int .i64 0, .int .i64 0, .int .i64 0, .int .i64 0, .int .i64 0, .int .i64 0, .int .i64 0, .int .i64 0, .int .i64 0, .int .i64 0] 23))); clear HQ; have HQ := HQ2; clear HQ2))
            clear hHeld
            refine hK.out _ _ ?_ (fun hHeld => ?_)
            · exact ⟨HS.out.sB, HS.out.pB⟩
            clear hK K
            (try simp only [Act.put, List.setIfInBounds_toArray, List.set_cons_zero, List.set_cons_succ])
            refine wpAnyM_oneS 6 rfl (by kernel_rfl) (fun K hK => ?_)
            go_simp
            (refine (AL.out _ HS.out.flg.cell HS.out.flg.free _ _ HQ.out).mono ?_); rintro e w7 ⟨v, rfl, hu7, hv7⟩; (try (have N8 := Lib.hid (ownr_a HA.out.1 hv7 (rfl : (0 : Nat) = 0)))); (try (have N9 := Lib.hid (ownr_a HR.out.1 hv7 (rfl : (0 : Nat) = 0)))); have HV := Lib.hid (And.intro hv7 HS.out.flg.lt); (try (have HA2 := Lib.hid (And.intro (HA.out.1.upd hu7 (by have := HA.out.2; simp; omega)) HA.out.2); clear HA; have HA := HA2; clear HA2)); (try (have HR2 := Lib.hid (And.intro (HR.out.1.upd hu7 (by have := HR.out.2; simp; omega)) HR.out.2); clear HR; have HR := HR2; clear HR2)); have HS2 := Lib.hid (HS.out.upd hu7); clear HS; have HS := HS2; clear HS2 HQ; clear hu7 hv7
            (try dsimp only)
            (try simp only [Act.put, List.setIfInBounds_toArray, List.set_cons_zero, List.set_cons_succ])
            clear hHeld
            refine hK.out _ _ ?_ (fun hHeld => ?_)
            · exact ⟨HS.out.sB, HS.out.pB⟩
            clear hK K
            (try simp only [Act.put, List.setIfInBounds_toArray, List.set_cons_zero, List.set_cons_succ])
            refine wpAnyM_take 7 (v := ?_) rfl (by kernel_rfl) (fun _ _ _ h => h) (Or.inl ⟨by rfl, ?_⟩) (by assumption) ?_
            rotate_left
            · (intro wx hSw; (try dsimp only at hSw); go_simp; (try with_reducible rfl))
            (try simp only [Act.put, List.setIfInBounds_toArray, List.set_cons_zero, List.set_cons_succ])
            refine wpAnyM_take 8 (v := ?_) rfl (by kernel_rfl) (fun _ _ _ h => h) (Or.inl ⟨by rfl, ?_⟩) (by assumption) ?_
            rotate_left
            · (intro wx hSw; (try dsimp only at hSw); go_simp; (try with_reducible rfl))
            (try simp only [Act.put, List.setIfInBounds_toArray, List.set_cons_zero, List.set_cons_succ])
            refine wpAnyM_take 9 (v := ?_) rfl (by kernel_rfl) (fun _ _ _ h => h) (Or.inl ⟨by rfl, ?_⟩) (by assumption) ?_
            rotate_left
            · (intro wx hSw; (try dsimp only at hSw); go_simp; (try with_reducible rfl))
            (try simp only [Act.put, List.setIfInBounds_toArray, List.set_cons_zero, List.set_cons_succ])
            refine wpAnyM_take 10 (v := ?_) rfl (by kernel_rfl) (fun _ _ _ h => h) (Or.inl ⟨by rfl, ?_⟩) (by assumption) ?_
            rotate_left
            · (intro wx hSw; (try dsimp only at hSw); go_simp; (try with_reducible rfl))
            (try simp only [Act.put, List.setIfInBounds_toArray, List.set_cons_zero, List.set_cons_succ])
            have HX := Lib.hid (blk_ne2 HR.out.1 HA.out.1 (by decide)); have HE := Lib.hid (And.intro (HR.out.1.setRow_other (arrv 24 SN) HX.out) HR.out.2); have HV2 := Lib.hid (And.intro (HV.out.1.row2 (arrv 24 SN) N8.out) HV.out.2); clear HV; have HV := HV2; clear HV2; have HS2 := Lib.hid (HS.out.row HA.out.2 (arrv 24 SN)); clear HS; have HS := HS2; clear HS2; have HB := Lib.hid (And.intro (HA.out.1.setRow SN) HA.out.2)
            clear hHeld
            refine wpAnyM_doneS 13 rfl (by kernel_rfl) (by rfl) (run_store_row 23 (.tmp 8) (.tmp 32) rfl _ rfl rfl HA.out.1 ist) ?_ (fun hHeld => ?_)
            · exact ⟨HS.out.sB, HS.out.pB⟩
            (try simp only [Act.put])
            have HV2 := Lib.hid (And.intro (HV.out.1.row2 (arrv 300 PN) N9.out) HV.out.2); clear HV; have HV := HV2; clear HV2; have HS2 := Lib.hid (HS.out.row HE.out.2 (arrv 300 PN)); clear HS; have HS := HS2; clear HS2; have HB2 := Lib.hid (And.intro (HB.out.1.setRow_other (arrv 300 PN) (fun e => HX.out e.symm)) HB.out.2); clear HB; have HB := HB2; clear HB2; have HC := Lib.hid (And.intro (HE.out.1.setRow PN) HE.out.2)
            clear hHeld
            refine wpAnyM_doneS 14 rfl (by kernel_rfl) (by rfl) (run_store_row 26 (.tmp 9) (.tmp 33) rfl _ rfl rfl HE.out.1 icov) ?_ (fun hHeld => ?_)
            · exact ⟨HS.out.sB, HS.out.pB⟩
            (try simp only [Act.put])
            refine wpAnyM_one 15 rfl (by kernel_rfl) (fun K hK => ?_)
            go_simp
            refine hK.out _ _ (.inl (by kernel_rfl)) (fun _ => ?_)
            clear hK K
            (try simp only [Act.put, List.setIfInBounds_toArray, List.set_cons_zero, List.set_cons_succ])
            refine wpAnyM_done (by kernel_rfl) ?_ _
            (go_wp2_with fail; obtain ⟨q3, cp3, hvq, hr⟩ := HV.out.1.toldG (lo := bc) (by have := HV.out.2; omega); (rw [hvq]); clear hvq; go_meet; exact ⟨_, _, _, _, rfl, rfl, rfl, Lib.hid ⟨HS.out, HB.out, HC.out, hr⟩⟩)
        · go_simp; have HA := Lib.hid (mn_st HS.out _ (by first | (simp; rfl) | rfl)); (try (have N8 := Lib.hid (ownr_n HV.out.1 (by first | (simp; rfl) | rfl)); have HV2 := Lib.hid (And.intro (HV.out.1.alloc (.cells #[.int .i64 0, .int .i64 0, .int .i64 0, .int .i64 0, .int .i64 0, .int .i64 0, .int .i64 0, .int .i64 0, .int .i64 0, .int .i64 0, .int .i64 0, .int .i64 0, .int .i64 0, .int .i64 0, .int .i64 0, .int .i64 0, .int .i64 0, .int .i64 0, .int .i64 0, .int .i64 0, .int .i64 0, .int .i64 0, .int .i64 0, .int .i64 0] 23)) HV.out.2); clear HV; have HV := HV2; clear HV2)); have HS2 := Lib.hid (HS.out.alloc (.cells #[.int .i64 0, .int .i64 0, .int .i64 0, .int .i64 0, .int .i64 0, .int .i64 0, .int .i64 0, .int .i64 0, .int .i64 0, .int .i64 0, .int .i64 0, .int .i64 0, .int .i64 0, .int .i64 0, .int .i64 0, .int .i64 0, .int .i64 0, .int .i64 0, .int .i64 0, .int .i64 0, .int .i64 0, .int .i64 0, .int .i64 0, .int .i64 0] 23)); clear HS; have HS := HS2; clear HS2; (try (have HR2 := Lib.hid (And.intro (HR.out.1.alloc (.cells #[.int .i64 0, .int .i64 0, .int .i64 0, .int .i64 0, .int .i64 0, .int .i64 0, .int .i64 0, .int .i64 0, .int .i64 0, .int .i64 0, .int .i64 0, .int .i64 0, .int .i64 0, .int .i64 0, .int .i64 0, .int .i64 0, .int .i64 0, .int .i64 0, .int .i64 0, .int .i64 0, .int .i64 0, .int .i64 0, .int .i64 0, .int .i64 0] 23)) HR.out.2); clear HR; have HR := HR2; clear HR2)); (try (have HQ2 := Lib.hid (HQ.out.below (Below.alloc (Below.refl _ _) (Nat.le_refl _) (.cells #[.int .i64 0, .int .i64 0, .int .i64 0, .int .i64 0, .int .i64 0, .int .i64 0, .int .i64 0, .int .i64 0, .int .i64 0, .int .i64 0, .int .i64 0, .int .i64 0, .int .i64 0, .int .i64 0, .int .i64 0, .int .i64 0, .int .i64 0, .int .i64 0, .int .i64 0, .int .i64 0, .int .i64 0, .int .i64 0, .int .i64 0, .int .i64 0] 23))); clear HQ; have HQ := HQ2; clear HQ2))
          clear hHeld
          refine hK.out _ _ ?_ (fun hHeld => ?_)
          · exact ⟨HS.out.sB, HS.out.pB⟩
          clear hK K
          (try simp only [Act.put, List.setIfInBounds_toArray, List.set_cons_zero, List.set_cons_succ])
          refine wpAnyM_oneS 5 rfl (by kernel_rfl) (fun K hK => ?_)
          refine if_pos_of (by rfl) (wp_appAll_obs (.tmp 28) (.tmp 29) rfl _ q n cp O rfl rfl (HL.out.below HS.out.below) HZ.out n6 ?_); intro q2 cp2 w6 hb6 hm6; have HQ := Lib.hid hm6; have HS2 := Lib.hid (HS.out.down hb6); clear HS; have HS := HS2; clear HS2; (try (have HA2 := Lib.hid (And.intro (HA.out.1.below hb6) HA.out.2); clear HA; have HA := HA2; clear HA2)); (try (have HR2 := Lib.hid (And.intro (HR.out.1.below hb6) HR.out.2); clear HR; have HR := HR2; clear HR2)); clear hb6 hm6
          clear hHeld
          refine hK.out _ _ ?_ (fun hHeld => ?_)
          · exact ⟨HS.out.sB, HS.out.pB⟩
          clear hK K
          (try simp only [Act.put, List.setIfInBounds_toArray, List.set_cons_zero, List.set_cons_succ])
          refine wpAnyM_oneS 6 rfl (by kernel_rfl) (fun K hK => ?_)
          go_simp
          (refine (AL.out _ HS.out.flg.cell HS.out.flg.free _ _ HQ.out).mono ?_); rintro e w7 ⟨v, rfl, hu7, hv7⟩; (try (have N8 := Lib.hid (ownr_a HA.out.1 hv7 (rfl : (0 : Nat) = 0)))); (try (have N9 := Lib.hid (ownr_a HR.out.1 hv7 (rfl : (0 : Nat) = 0)))); have HV := Lib.hid (And.intro hv7 HS.out.flg.lt); (try (have HA2 := Lib.hid (And.intro (HA.out.1.upd hu7 (by have := HA.out.2; simp; omega)) HA.out.2); clear HA; have HA := HA2; clear HA2)); (try (have HR2 := Lib.hid (And.intro (HR.out.1.upd hu7 (by have := HR.out.2; simp; omega)) HR.out.2); clear HR; have HR := HR2; clear HR2)); have HS2 := Lib.hid (HS.out.upd hu7); clear HS; have HS := HS2; clear HS2 HQ; clear hu7 hv7
          (try dsimp only)
          (try simp only [Act.put, List.setIfInBounds_toArray, List.set_cons_zero, List.set_cons_succ])
          clear hHeld
          refine hK.out _ _ ?_ (fun hHeld => ?_)
          · exact ⟨HS.out.sB, HS.out.pB⟩
          clear hK K
          (try simp only [Act.put, List.setIfInBounds_toArray, List.set_cons_zero, List.set_cons_succ])
          refine wpAnyM_take 7 (v := ?_) rfl (by kernel_rfl) (fun _ _ _ h => h) (Or.inl ⟨by rfl, ?_⟩) (by assumption) ?_
          rotate_left
          · (intro wx hSw; (try dsimp only at hSw); go_simp; (try with_reducible rfl))
          (try simp only [Act.put, List.setIfInBounds_toArray, List.set_cons_zero, List.set_cons_succ])
          refine wpAnyM_take 8 (v := ?_) rfl (by kernel_rfl) (fun _ _ _ h => h) (Or.inl ⟨by rfl, ?_⟩) (by assumption) ?_
          rotate_left
          · (intro wx hSw; (try dsimp only at hSw); go_simp; (try with_reducible rfl))
          (try simp only [Act.put, List.setIfInBounds_toArray, List.set_cons_zero, List.set_cons_succ])
          refine wpAnyM_take 9 (v := ?_) rfl (by kernel_rfl) (fun _ _ _ h => h) (Or.inl ⟨by rfl, ?_⟩) (by assumption) ?_
          rotate_left
          · (intro wx hSw; (try dsimp only at hSw); go_simp; (try with_reducible rfl))
          (try simp only [Act.put, List.setIfInBounds_toArray, List.set_cons_zero, List.set_cons_succ])
          refine wpAnyM_take 10 (v := ?_) rfl (by kernel_rfl) (fun _ _ _ h => h) (Or.inl ⟨by rfl, ?_⟩) (by assumption) ?_
          rotate_left
          · (intro wx hSw; (try dsimp only at hSw); go_simp; (try with_reducible rfl))
          (try simp only [Act.put, List.setIfInBounds_toArray, List.set_cons_zero, List.set_cons_succ])
          have HX := Lib.hid (blk_ne2 HR.out.1 HA.out.1 (by decide)); have HE := Lib.hid (And.intro (HR.out.1.setRow_other (arrv 24 SN) HX.out) HR.out.2); have HV2 := Lib.hid (And.intro (HV.out.1.row2 (arrv 24 SN) N8.out) HV.out.2); clear HV; have HV := HV2; clear HV2; have HS2 := Lib.hid (HS.out.row HA.out.2 (arrv 24 SN)); clear HS; have HS := HS2; clear HS2; have HB := Lib.hid (And.intro (HA.out.1.setRow SN) HA.out.2)
          clear hHeld
          refine wpAnyM_doneS 13 rfl (by kernel_rfl) (by rfl) (run_store_row 23 (.tmp 8) (.tmp 32) rfl _ rfl rfl HA.out.1 ist) ?_ (fun hHeld => ?_)
          · exact ⟨HS.out.sB, HS.out.pB⟩
          (try simp only [Act.put])
          have HV2 := Lib.hid (And.intro (HV.out.1.row2 (arrv 300 PN) N9.out) HV.out.2); clear HV; have HV := HV2; clear HV2; have HS2 := Lib.hid (HS.out.row HE.out.2 (arrv 300 PN)); clear HS; have HS := HS2; clear HS2; have HB2 := Lib.hid (And.intro (HB.out.1.setRow_other (arrv 300 PN) (fun e => HX.out e.symm)) HB.out.2); clear HB; have HB := HB2; clear HB2; have HC := Lib.hid (And.intro (HE.out.1.setRow PN) HE.out.2)
          clear hHeld
          refine wpAnyM_doneS 14 rfl (by kernel_rfl) (by rfl) (run_store_row 26 (.tmp 9) (.tmp 33) rfl _ rfl rfl HE.out.1 icov) ?_ (fun hHeld => ?_)
          · exact ⟨HS.out.sB, HS.out.pB⟩
          (try simp only [Act.put])
          refine wpAnyM_one 15 rfl (by kernel_rfl) (fun K hK => ?_)
          go_simp
          refine hK.out _ _ (.inl (by kernel_rfl)) (fun _ => ?_)
          clear hK K
          (try simp only [Act.put, List.setIfInBounds_toArray, List.set_cons_zero, List.set_cons_succ])
          refine wpAnyM_done (by kernel_rfl) ?_ _
          (go_wp2_with fail; obtain ⟨q3, cp3, hvq, hr⟩ := HV.out.1.toldG (lo := bc) (by have := HV.out.2; omega); (rw [hvq]); clear hvq; go_meet; exact ⟨_, _, _, _, rfl, rfl, rfl, Lib.hid ⟨HS.out, HB.out, HC.out, hr⟩⟩)
    · go_simp; have HA := Lib.hid (mn_st HS.out _ (by first | (simp; rfl) | rfl)); (try (have N8 := Lib.hid (ownr_n HV.out.1 (by first | (simp; rfl) | rfl)); have HV2 := Lib.hid (And.intro (HV.out.1.alloc (.cells #[.int .i64 0, .int .i64 0, .int .i64 0, .int .i64 0, .int .i64 0, .int .i64 0, .int .i64 0, .int .i64 0, .int .i64 0, .int .i64 0, .int .i64 0, .int .i64 0, .int .i64 0, .int .i64 0, .int .i64 0, .int .i64 0, .int .i64 0, .int .i64 0, .int .i64 0, .int .i64 0, .int .i64 0, .int .i64 0, .int .i64 0, .int .i64 0] 23)) HV.out.2); clear HV; have HV := HV2; clear HV2)); have HS2 := Lib.hid (HS.out.alloc (.cells #[.int .i64 0, .int .i64 0, .int .i64 0, .int .i64 0, .int .i64 0, .int .i64 0, .int .i64 0, .int .i64 0, .int .i64 0, .int .i64 0, .int .i64 0, .int .i64 0, .int .i64 0, .int .i64 0, .int .i64 0, .int .i64 0, .int .i64 0, .int .i64 0, .int .i64 0, .int .i64 0, .int .i64 0, .int .i64 0, .int .i64 0, .int .i64 0] 23)); clear HS; have HS := HS2; clear HS2; (try (have HR2 := Lib.hid (And.intro (HR.out.1.alloc (.cells #[.int .i64 0, .int .i64 0, .int .i64 0, .int .i64 0, .int .i64 0, .int .i64 0, .int .i64 0, .int .i64 0, .int .i64 0, .int .i64 0, .int .i64 0, .int .i64 0, .int .i64 0, .int .i64 0, .int .i64 0, .int .i64 0, .int .i64 0, .int .i64 0, .int .i64 0, .int .i64 0, .int .i64 0, .int .i64 0, .int .i64 0, .int .i64 0] 23)) HR.out.2); clear HR; have HR := HR2; clear HR2)); (try (have HQ2 := Lib.hid (HQ.out.below (Below.alloc (Below.refl _ _) (Nat.le_refl _) (.cells #[.int .i64 0, .int .i64 0, .int .i64 0, .int .i64 0, .int .i64 0, .int .i64 0, .int .i64 0, .int .i64 0, .int .i64 0, .int .i64 0, .int .i64 0, .int .i64 0, .int .i64 0, .int .i64 0, .int .i64 0, .int .i64 0, .int .i64 0, .int .i64 0, .int .i64 0, .int .i64 0, .int .i64 0, .int .i64 0, .int .i64 0, .int .i64 0] 23))); clear HQ; have HQ := HQ2; clear HQ2))
      clear hHeld
      refine hK.out _ _ ?_ (fun hHeld => ?_)
      · exact ⟨HS.out.sB, HS.out.pB⟩
      clear hK K
      (try simp only [Act.put, List.setIfInBounds_toArray, List.set_cons_zero, List.set_cons_succ])
      refine wpAnyM_twoS 3 12 rfl rfl (by kernel_rfl) (fun K hK => ?_) (fun K hK => ?_)
      · refine if_pos_of (by rfl) (wp_bsl0_obs rfl ?_); have HS2 := Lib.hid (HS.out.alloc (.cells #[] 41)); clear HS; have HS := HS2; clear HS2; (try (have HA2 := Lib.hid (And.intro (HA.out.1.alloc (.cells #[] 41)) HA.out.2); clear HA; have HA := HA2; clear HA2)); (try (have HR2 := Lib.hid (And.intro (HR.out.1.alloc (.cells #[] 41)) HR.out.2); clear HR; have HR := HR2; clear HR2))
        clear hHeld
        refine hK.out _ _ ?_ (fun hHeld => ?_)
        · exact ⟨HS.out.sB, HS.out.pB⟩
        clear hK K
        (try simp only [Act.put, List.setIfInBounds_toArray, List.set_cons_zero, List.set_cons_succ])
        refine wpAnyM_twoS 5 12 rfl rfl (by kernel_rfl) (fun K hK => ?_) (fun K hK => ?_)
        · refine if_pos_of (by rfl) (wp_appAll_obs (.tmp 28) (.tmp 29) rfl _ q n cp O rfl rfl (HL.out.below HS.out.below) HZ.out n6 ?_); intro q2 cp2 w6 hb6 hm6; have HQ := Lib.hid hm6; have HS2 := Lib.hid (HS.out.down hb6); clear HS; have HS := HS2; clear HS2; (try (have HA2 := Lib.hid (And.intro (HA.out.1.below hb6) HA.out.2); clear HA; have HA := HA2; clear HA2)); (try (have HR2 := Lib.hid (And.intro (HR.out.1.below hb6) HR.out.2); clear HR; have HR := HR2; clear HR2)); clear hb6 hm6
          clear hHeld
          refine hK.out _ _ ?_ (fun hHeld => ?_)
          · exact ⟨HS.out.sB, HS.out.pB⟩
          clear hK K
          (try simp only [Act.put, List.setIfInBounds_toArray, List.set_cons_zero, List.set_cons_succ])
          refine wpAnyM_twoS 6 12 rfl rfl (by kernel_rfl) (fun K hK => ?_) (fun K hK => ?_)
          · go_simp
            (refine (AL.out _ HS.out.flg.cell HS.out.flg.free _ _ HQ.out).mono ?_); rintro e w7 ⟨v, rfl, hu7, hv7⟩; (try (have N8 := Lib.hid (ownr_a HA.out.1 hv7 (rfl : (0 : Nat) = 0)))); (try (have N9 := Lib.hid (ownr_a HR.out.1 hv7 (rfl : (0 : Nat) = 0)))); have HV := Lib.hid (And.intro hv7 HS.out.flg.lt); (try (have HA2 := Lib.hid (And.intro (HA.out.1.upd hu7 (by have := HA.out.2; simp; omega)) HA.out.2); clear HA; have HA := HA2; clear HA2)); (try (have HR2 := Lib.hid (And.intro (HR.out.1.upd hu7 (by have := HR.out.2; simp; omega)) HR.out.2); clear HR; have HR := HR2; clear HR2)); have HS2 := Lib.hid (HS.out.upd hu7); clear HS; have HS := HS2; clear HS2 HQ; clear hu7 hv7
            (try dsimp only)
            (try simp only [Act.put, List.setIfInBounds_toArray, List.set_cons_zero, List.set_cons_succ])
            clear hHeld
            refine hK.out _ _ ?_ (fun hHeld => ?_)
            · exact ⟨HS.out.sB, HS.out.pB⟩
            clear hK K
            (try simp only [Act.put, List.setIfInBounds_toArray, List.set_cons_zero, List.set_cons_succ])
            refine wpAnyM_take 7 (v := ?_) rfl (by kernel_rfl) (fun _ _ _ h => h) (Or.inl ⟨by rfl, ?_⟩) (by assumption) ?_
            rotate_left
            · (intro wx hSw; (try dsimp only at hSw); go_simp; (try with_reducible rfl))
            (try simp only [Act.put, List.setIfInBounds_toArray, List.set_cons_zero, List.set_cons_succ])
            refine wpAnyM_take 8 (v := ?_) rfl (by kernel_rfl) (fun _ _ _ h => h) (Or.inl ⟨by rfl, ?_⟩) (by assumption) ?_
            rotate_left
            · (intro wx hSw; (try dsimp only at hSw); go_simp; (try with_reducible rfl))
            (try simp only [Act.put, List.setIfInBounds_toArray, List.set_cons_zero, List.set_cons_succ])
            refine wpAnyM_take 9 (v := ?_) rfl (by kernel_rfl) (fun _ _ _ h => h) (Or.inl ⟨by rfl, ?_⟩) (by assumption) ?_
            rotate_left
            · (intro wx hSw; (try dsimp only at hSw); go_simp; (try with_reducible rfl))
            (try simp only [Act.put, List.setIfInBounds_toArray, List.set_cons_zero, List.set_cons_succ])
            refine wpAnyM_take 10 (v := ?_) rfl (by kernel_rfl) (fun _ _ _ h => h) (Or.inl ⟨by rfl, ?_⟩) (by assumption) ?_
            rotate_left
            · (intro wx hSw; (try dsimp only at hSw); go_simp; (try with_reducible rfl))
            (try simp only [Act.put, List.setIfInBounds_toArray, List.set_cons_zero, List.set_cons_succ])
            refine wpAnyM_oneS 12 rfl (by kernel_rfl) (fun K hK => ?_)
            go_simp; have HR := Lib.hid (mn_cov HS.out _ (by first | (simp; rfl) | rfl)); (try (have N9 := Lib.hid (ownr_n HV.out.1 (by first | (simp; rfl) | rfl)); have HV2 := Lib.hid (And.intro (HV.out.1.alloc (.cells Try.zeroCells26 26)) HV.out.2); clear HV; have HV := HV2; clear HV2)); have HS2 := Lib.hid (HS.out.alloc (.cells Try.zeroCells26 26)); clear HS; have HS := HS2; clear HS2; (try (have HA2 := Lib.hid (And.intro (HA.out.1.alloc (.cells Try.zeroCells26 26)) HA.out.2); clear HA; have HA := HA2; clear HA2)); (try (have HQ2 := Lib.hid (HQ.out.below (Below.alloc (Below.refl _ _) (Nat.le_refl _) (.cells Try.zeroCells26 26))); clear HQ; have HQ := HQ2; clear HQ2))
            clear hHeld
            refine hK.out _ _ ?_ (fun hHeld => ?_)
            · exact ⟨HS.out.sB, HS.out.pB⟩
            clear hK K
            (try simp only [Act.put, List.setIfInBounds_toArray, List.set_cons_zero, List.set_cons_succ])
            have HX := Lib.hid (blk_ne2 HR.out.1 HA.out.1 (by decide)); have HE := Lib.hid (And.intro (HR.out.1.setRow_other (arrv 24 SN) HX.out) HR.out.2); have HV2 := Lib.hid (And.intro (HV.out.1.row2 (arrv 24 SN) N8.out) HV.out.2); clear HV; have HV := HV2; clear HV2; have HS2 := Lib.hid (HS.out.row HA.out.2 (arrv 24 SN)); clear HS; have HS := HS2; clear HS2; have HB := Lib.hid (And.intro (HA.out.1.setRow SN) HA.out.2)
            clear hHeld
            refine wpAnyM_doneS 13 rfl (by kernel_rfl) (by rfl) (run_store_row 23 (.tmp 8) (.tmp 32) rfl _ rfl rfl HA.out.1 ist) ?_ (fun hHeld => ?_)
            · exact ⟨HS.out.sB, HS.out.pB⟩
            (try simp only [Act.put])
            have HV2 := Lib.hid (And.intro (HV.out.1.row2 (arrv 300 PN) N9.out) HV.out.2); clear HV; have HV := HV2; clear HV2; have HS2 := Lib.hid (HS.out.row HE.out.2 (arrv 300 PN)); clear HS; have HS := HS2; clear HS2; have HB2 := Lib.hid (And.intro (HB.out.1.setRow_other (arrv 300 PN) (fun e => HX.out e.symm)) HB.out.2); clear HB; have HB := HB2; clear HB2; have HC := Lib.hid (And.intro (HE.out.1.setRow PN) HE.out.2)
            clear hHeld
            refine wpAnyM_doneS 14 rfl (by kernel_rfl) (by rfl) (run_store_row 26 (.tmp 9) (.tmp 33) rfl _ rfl rfl HE.out.1 icov) ?_ (fun hHeld => ?_)
            · exact ⟨HS.out.sB, HS.out.pB⟩
            (try simp only [Act.put])
            refine wpAnyM_one 15 rfl (by kernel_rfl) (fun K hK => ?_)
            go_simp
            refine hK.out _ _ (.inl (by kernel_rfl)) (fun _ => ?_)
            clear hK K
            (try simp only [Act.put, List.setIfInBounds_toArray, List.set_cons_zero, List.set_cons_succ])
            refine wpAnyM_done (by kernel_rfl) ?_ _
            (go_wp2_with fail; obtain ⟨q3, cp3, hvq, hr⟩ := HV.out.1.toldG (lo := bc) (by have := HV.out.2; omega); (rw [hvq]); clear hvq; go_meet; exact ⟨_, _, _, _, rfl, rfl, rfl, Lib.hid ⟨HS.out, HB.out, HC.out, hr⟩⟩)
          · go_simp; have HR := Lib.hid (mn_cov HS.out _ (by first | (simp; rfl) | rfl)); (try (have N9 := Lib.hid (ownr_n HV.out.1 (by first | (simp; rfl) | rfl)); have HV2 := Lib.hid (And.intro (HV.out.1.alloc (.cells Try.zeroCells26 26)) HV.out.2); clear HV; have HV := HV2; clear HV2)); have HS2 := Lib.hid (HS.out.alloc (.cells Try.zeroCells26 26)); clear HS; have HS := HS2; clear HS2; (try (have HA2 := Lib.hid (And.intro (HA.out.1.alloc (.cells Try.zeroCells26 26)) HA.out.2); clear HA; have HA := HA2; clear HA2)); (try (have HQ2 := Lib.hid (HQ.out.below (Below.alloc (Below.refl _ _) (Nat.le_refl _) (.cells Try.zeroCells26 26))); clear HQ; have HQ := HQ2; clear HQ2))
            clear hHeld
            refine hK.out _ _ ?_ (fun hHeld => ?_)
            · exact ⟨HS.out.sB, HS.out.pB⟩
            clear hK K
            (try simp only [Act.put, List.setIfInBounds_toArray, List.set_cons_zero, List.set_cons_succ])
            refine wpAnyM_oneS 6 rfl (by kernel_rfl) (fun K hK => ?_)
            go_simp
            (refine (AL.out _ HS.out.flg.cell HS.out.flg.free _ _ HQ.out).mono ?_); rintro e w7 ⟨v, rfl, hu7, hv7⟩; (try (have N8 := Lib.hid (ownr_a HA.out.1 hv7 (rfl : (0 : Nat) = 0)))); (try (have N9 := Lib.hid (ownr_a HR.out.1 hv7 (rfl : (0 : Nat) = 0)))); have HV := Lib.hid (And.intro hv7 HS.out.flg.lt); (try (have HA2 := Lib.hid (And.intro (HA.out.1.upd hu7 (by have := HA.out.2; simp; omega)) HA.out.2); clear HA; have HA := HA2; clear HA2)); (try (have HR2 := Lib.hid (And.intro (HR.out.1.upd hu7 (by have := HR.out.2; simp; omega)) HR.out.2); clear HR; have HR := HR2; clear HR2)); have HS2 := Lib.hid (HS.out.upd hu7); clear HS; have HS := HS2; clear HS2 HQ; clear hu7 hv7
            (try dsimp only)
            (try simp only [Act.put, List.setIfInBounds_toArray, List.set_cons_zero, List.set_cons_succ])
            clear hHeld
            refine hK.out _ _ ?_ (fun hHeld => ?_)
            · exact ⟨HS.out.sB, HS.out.pB⟩
            clear hK K
            (try simp only [Act.put, List.setIfInBounds_toArray, List.set_cons_zero, List.set_cons_succ])
            refine wpAnyM_take 7 (v := ?_) rfl (by kernel_rfl) (fun _ _ _ h => h) (Or.inl ⟨by rfl, ?_⟩) (by assumption) ?_
            rotate_left
            · (intro wx hSw; (try dsimp only at hSw); go_simp; (try with_reducible rfl))
            (try simp only [Act.put, List.setIfInBounds_toArray, List.set_cons_zero, List.set_cons_succ])
            refine wpAnyM_take 8 (v := ?_) rfl (by kernel_rfl) (fun _ _ _ h => h) (Or.inl ⟨by rfl, ?_⟩) (by assumption) ?_
            rotate_left
            · (intro wx hSw; (try dsimp only at hSw); go_simp; (try with_reducible rfl))
            (try simp only [Act.put, List.setIfInBounds_toArray, List.set_cons_zero, List.set_cons_succ])
            refine wpAnyM_take 9 (v := ?_) rfl (by kernel_rfl) (fun _ _ _ h => h) (Or.inl ⟨by rfl, ?_⟩) (by assumption) ?_
            rotate_left
            · (intro wx hSw; (try dsimp only at hSw); go_simp; (try with_reducible rfl))
            (try simp only [Act.put, List.setIfInBounds_toArray, List.set_cons_zero, List.set_cons_succ])
            refine wpAnyM_take 10 (v := ?_) rfl (by kernel_rfl) (fun _ _ _ h => h) (Or.inl ⟨by rfl, ?_⟩) (by assumption) ?_
            rotate_left
            · (intro wx hSw; (try dsimp only at hSw); go_simp; (try with_reducible rfl))
            (try simp only [Act.put, List.setIfInBounds_toArray, List.set_cons_zero, List.set_cons_succ])
            have HX := Lib.hid (blk_ne2 HR.out.1 HA.out.1 (by decide)); have HE := Lib.hid (And.intro (HR.out.1.setRow_other (arrv 24 SN) HX.out) HR.out.2); have HV2 := Lib.hid (And.intro (HV.out.1.row2 (arrv 24 SN) N8.out) HV.out.2); clear HV; have HV := HV2; clear HV2; have HS2 := Lib.hid (HS.out.row HA.out.2 (arrv 24 SN)); clear HS; have HS := HS2; clear HS2; have HB := Lib.hid (And.intro (HA.out.1.setRow SN) HA.out.2)
            clear hHeld
            refine wpAnyM_doneS 13 rfl (by kernel_rfl) (by rfl) (run_store_row 23 (.tmp 8) (.tmp 32) rfl _ rfl rfl HA.out.1 ist) ?_ (fun hHeld => ?_)
            · exact ⟨HS.out.sB, HS.out.pB⟩
            (try simp only [Act.put])
            have HV2 := Lib.hid (And.intro (HV.out.1.row2 (arrv 300 PN) N9.out) HV.out.2); clear HV; have HV := HV2; clear HV2; have HS2 := Lib.hid (HS.out.row HE.out.2 (arrv 300 PN)); clear HS; have HS := HS2; clear HS2; have HB2 := Lib.hid (And.intro (HB.out.1.setRow_other (arrv 300 PN) (fun e => HX.out e.symm)) HB.out.2); clear HB; have HB := HB2; clear HB2; have HC := Lib.hid (And.intro (HE.out.1.setRow PN) HE.out.2)
            clear hHeld
            refine wpAnyM_doneS 14 rfl (by kernel_rfl) (by rfl) (run_store_row 26 (.tmp 9) (.tmp 33) rfl _ rfl rfl HE.out.1 icov) ?_ (fun hHeld => ?_)
            · exact ⟨HS.out.sB, HS.out.pB⟩
            (try simp only [Act.put])
            refine wpAnyM_one 15 rfl (by kernel_rfl) (fun K hK => ?_)
            go_simp
            refine hK.out _ _ (.inl (by kernel_rfl)) (fun _ => ?_)
            clear hK K
            (try simp only [Act.put, List.setIfInBounds_toArray, List.set_cons_zero, List.set_cons_succ])
            refine wpAnyM_done (by kernel_rfl) ?_ _
            (go_wp2_with fail; obtain ⟨q3, cp3, hvq, hr⟩ := HV.out.1.toldG (lo := bc) (by have := HV.out.2; omega); (rw [hvq]); clear hvq; go_meet; exact ⟨_, _, _, _, rfl, rfl, rfl, Lib.hid ⟨HS.out, HB.out, HC.out, hr⟩⟩)
        · go_simp; have HR := Lib.hid (mn_cov HS.out _ (by first | (simp; rfl) | rfl)); (try (have N9 := Lib.hid (ownr_n HV.out.1 (by first | (simp; rfl) | rfl)); have HV2 := Lib.hid (And.intro (HV.out.1.alloc (.cells Try.zeroCells26 26)) HV.out.2); clear HV; have HV := HV2; clear HV2)); have HS2 := Lib.hid (HS.out.alloc (.cells Try.zeroCells26 26)); clear HS; have HS := HS2; clear HS2; (try (have HA2 := Lib.hid (And.intro (HA.out.1.alloc (.cells Try.zeroCells26 26)) HA.out.2); clear HA; have HA := HA2; clear HA2)); (try (have HQ2 := Lib.hid (HQ.out.below (Below.alloc (Below.refl _ _) (Nat.le_refl _) (.cells Try.zeroCells26 26))); clear HQ; have HQ := HQ2; clear HQ2))
          clear hHeld
          refine hK.out _ _ ?_ (fun hHeld => ?_)
          · exact ⟨HS.out.sB, HS.out.pB⟩
          clear hK K
          (try simp only [Act.put, List.setIfInBounds_toArray, List.set_cons_zero, List.set_cons_succ])
          refine wpAnyM_oneS 5 rfl (by kernel_rfl) (fun K hK => ?_)
          refine if_pos_of (by rfl) (wp_appAll_obs (.tmp 28) (.tmp 29) rfl _ q n cp O rfl rfl (HL.out.below HS.out.below) HZ.out n6 ?_); intro q2 cp2 w6 hb6 hm6; have HQ := Lib.hid hm6; have HS2 := Lib.hid (HS.out.down hb6); clear HS; have HS := HS2; clear HS2; (try (have HA2 := Lib.hid (And.intro (HA.out.1.below hb6) HA.out.2); clear HA; have HA := HA2; clear HA2)); (try (have HR2 := Lib.hid (And.intro (HR.out.1.below hb6) HR.out.2); clear HR; have HR := HR2; clear HR2)); clear hb6 hm6
          clear hHeld
          refine hK.out _ _ ?_ (fun hHeld => ?_)
          · exact ⟨HS.out.sB, HS.out.pB⟩
          clear hK K
          (try simp only [Act.put, List.setIfInBounds_toArray, List.set_cons_zero, List.set_cons_succ])
          refine wpAnyM_oneS 6 rfl (by kernel_rfl) (fun K hK => ?_)
          go_simp
          (refine (AL.out _ HS.out.flg.cell HS.out.flg.free _ _ HQ.out).mono ?_); rintro e w7 ⟨v, rfl, hu7, hv7⟩; (try (have N8 := Lib.hid (ownr_a HA.out.1 hv7 (rfl : (0 : Nat) = 0)))); (try (have N9 := Lib.hid (ownr_a HR.out.1 hv7 (rfl : (0 : Nat) = 0)))); have HV := Lib.hid (And.intro hv7 HS.out.flg.lt); (try (have HA2 := Lib.hid (And.intro (HA.out.1.upd hu7 (by have := HA.out.2; simp; omega)) HA.out.2); clear HA; have HA := HA2; clear HA2)); (try (have HR2 := Lib.hid (And.intro (HR.out.1.upd hu7 (by have := HR.out.2; simp; omega)) HR.out.2); clear HR; have HR := HR2; clear HR2)); have HS2 := Lib.hid (HS.out.upd hu7); clear HS; have HS := HS2; clear HS2 HQ; clear hu7 hv7
          (try dsimp only)
          (try simp only [Act.put, List.setIfInBounds_toArray, List.set_cons_zero, List.set_cons_succ])
          clear hHeld
          refine hK.out _ _ ?_ (fun hHeld => ?_)
          · exact ⟨HS.out.sB, HS.out.pB⟩
          clear hK K
          (try simp only [Act.put, List.setIfInBounds_toArray, List.set_cons_zero, List.set_cons_succ])
          refine wpAnyM_take 7 (v := ?_) rfl (by kernel_rfl) (fun _ _ _ h => h) (Or.inl ⟨by rfl, ?_⟩) (by assumption) ?_
          rotate_left
          · (intro wx hSw; (try dsimp only at hSw); go_simp; (try with_reducible rfl))
          (try simp only [Act.put, List.setIfInBounds_toArray, List.set_cons_zero, List.set_cons_succ])
          refine wpAnyM_take 8 (v := ?_) rfl (by kernel_rfl) (fun _ _ _ h => h) (Or.inl ⟨by rfl, ?_⟩) (by assumption) ?_
          rotate_left
          · (intro wx hSw; (try dsimp only at hSw); go_simp; (try with_reducible rfl))
          (try simp only [Act.put, List.setIfInBounds_toArray, List.set_cons_zero, List.set_cons_succ])
          refine wpAnyM_take 9 (v := ?_) rfl (by kernel_rfl) (fun _ _ _ h => h) (Or.inl ⟨by rfl, ?_⟩) (by assumption) ?_
          rotate_left
          · (intro wx hSw; (try dsimp only at hSw); go_simp; (try with_reducible rfl))
          (try simp only [Act.put, List.setIfInBounds_toArray, List.set_cons_zero, List.set_cons_succ])
          refine wpAnyM_take 10 (v := ?_) rfl (by kernel_rfl) (fun _ _ _ h => h) (Or.inl ⟨by rfl, ?_⟩) (by assumption) ?_
          rotate_left
          · (intro wx hSw; (try dsimp only at hSw); go_simp; (try with_reducible rfl))
          (try simp only [Act.put, List.setIfInBounds_toArray, List.set_cons_zero, List.set_cons_succ])
          have HX := Lib.hid (blk_ne2 HR.out.1 HA.out.1 (by decide)); have HE := Lib.hid (And.intro (HR.out.1.setRow_other (arrv 24 SN) HX.out) HR.out.2); have HV2 := Lib.hid (And.intro (HV.out.1.row2 (arrv 24 SN) N8.out) HV.out.2); clear HV; have HV := HV2; clear HV2; have HS2 := Lib.hid (HS.out.row HA.out.2 (arrv 24 SN)); clear HS; have HS := HS2; clear HS2; have HB := Lib.hid (And.intro (HA.out.1.setRow SN) HA.out.2)
          clear hHeld
          refine wpAnyM_doneS 13 rfl (by kernel_rfl) (by rfl) (run_store_row 23 (.tmp 8) (.tmp 32) rfl _ rfl rfl HA.out.1 ist) ?_ (fun hHeld => ?_)
          · exact ⟨HS.out.sB, HS.out.pB⟩
          (try simp only [Act.put])
          have HV2 := Lib.hid (And.intro (HV.out.1.row2 (arrv 300 PN) N9.out) HV.out.2); clear HV; have HV := HV2; clear HV2; have HS2 := Lib.hid (HS.out.row HE.out.2 (arrv 300 PN)); clear HS; have HS := HS2; clear HS2; have HB2 := Lib.hid (And.intro (HB.out.1.setRow_other (arrv 300 PN) (fun e => HX.out e.symm)) HB.out.2); clear HB; have HB := HB2; clear HB2; have HC := Lib.hid (And.intro (HE.out.1.setRow PN) HE.out.2)
          clear hHeld
          refine wpAnyM_doneS 14 rfl (by kernel_rfl) (by rfl) (run_store_row 26 (.tmp 9) (.tmp 33) rfl _ rfl rfl HE.out.1 icov) ?_ (fun hHeld => ?_)
          · exact ⟨HS.out.sB, HS.out.pB⟩
          (try simp only [Act.put])
          refine wpAnyM_one 15 rfl (by kernel_rfl) (fun K hK => ?_)
          go_simp
          refine hK.out _ _ (.inl (by kernel_rfl)) (fun _ => ?_)
          clear hK K
          (try simp only [Act.put, List.setIfInBounds_toArray, List.set_cons_zero, List.set_cons_succ])
          refine wpAnyM_done (by kernel_rfl) ?_ _
          (go_wp2_with fail; obtain ⟨q3, cp3, hvq, hr⟩ := HV.out.1.toldG (lo := bc) (by have := HV.out.2; omega); (rw [hvq]); clear hvq; go_meet; exact ⟨_, _, _, _, rfl, rfl, rfl, Lib.hid ⟨HS.out, HB.out, HC.out, hr⟩⟩)
      · go_simp; have HR := Lib.hid (mn_cov HS.out _ (by first | (simp; rfl) | rfl)); (try (have N9 := Lib.hid (ownr_n HV.out.1 (by first | (simp; rfl) | rfl)); have HV2 := Lib.hid (And.intro (HV.out.1.alloc (.cells Try.zeroCells26 26)) HV.out.2); clear HV; have HV := HV2; clear HV2)); have HS2 := Lib.hid (HS.out.alloc (.cells Try.zeroCells26 26)); clear HS; have HS := HS2; clear HS2; (try (have HA2 := Lib.hid (And.intro (HA.out.1.alloc (.cells Try.zeroCells26 26)) HA.out.2); clear HA; have HA := HA2; clear HA2)); (try (have HQ2 := Lib.hid (HQ.out.below (Below.alloc (Below.refl _ _) (Nat.le_refl _) (.cells Try.zeroCells26 26))); clear HQ; have HQ := HQ2; clear HQ2))
        clear hHeld
        refine hK.out _ _ ?_ (fun hHeld => ?_)
        · exact ⟨HS.out.sB, HS.out.pB⟩
        clear hK K
        (try simp only [Act.put, List.setIfInBounds_toArray, List.set_cons_zero, List.set_cons_succ])
        refine wpAnyM_oneS 3 rfl (by kernel_rfl) (fun K hK => ?_)
        refine if_pos_of (by rfl) (wp_bsl0_obs rfl ?_); have HS2 := Lib.hid (HS.out.alloc (.cells #[] 41)); clear HS; have HS := HS2; clear HS2; (try (have HA2 := Lib.hid (And.intro (HA.out.1.alloc (.cells #[] 41)) HA.out.2); clear HA; have HA := HA2; clear HA2)); (try (have HR2 := Lib.hid (And.intro (HR.out.1.alloc (.cells #[] 41)) HR.out.2); clear HR; have HR := HR2; clear HR2))
        clear hHeld
        refine hK.out _ _ ?_ (fun hHeld => ?_)
        · exact ⟨HS.out.sB, HS.out.pB⟩
        clear hK K
        (try simp only [Act.put, List.setIfInBounds_toArray, List.set_cons_zero, List.set_cons_succ])
        refine wpAnyM_oneS 5 rfl (by kernel_rfl) (fun K hK => ?_)
        refine if_pos_of (by rfl) (wp_appAll_obs (.tmp 28) (.tmp 29) rfl _ q n cp O rfl rfl (HL.out.below HS.out.below) HZ.out n6 ?_); intro q2 cp2 w6 hb6 hm6; have HQ := Lib.hid hm6; have HS2 := Lib.hid (HS.out.down hb6); clear HS; have HS := HS2; clear HS2; (try (have HA2 := Lib.hid (And.intro (HA.out.1.below hb6) HA.out.2); clear HA; have HA := HA2; clear HA2)); (try (have HR2 := Lib.hid (And.intro (HR.out.1.below hb6) HR.out.2); clear HR; have HR := HR2; clear HR2)); clear hb6 hm6
        clear hHeld
        refine hK.out _ _ ?_ (fun hHeld => ?_)
        · exact ⟨HS.out.sB, HS.out.pB⟩
        clear hK K
        (try simp only [Act.put, List.setIfInBounds_toArray, List.set_cons_zero, List.set_cons_succ])
        refine wpAnyM_oneS 6 rfl (by kernel_rfl) (fun K hK => ?_)
        go_simp
        (refine (AL.out _ HS.out.flg.cell HS.out.flg.free _ _ HQ.out).mono ?_); rintro e w7 ⟨v, rfl, hu7, hv7⟩; (try (have N8 := Lib.hid (ownr_a HA.out.1 hv7 (rfl : (0 : Nat) = 0)))); (try (have N9 := Lib.hid (ownr_a HR.out.1 hv7 (rfl : (0 : Nat) = 0)))); have HV := Lib.hid (And.intro hv7 HS.out.flg.lt); (try (have HA2 := Lib.hid (And.intro (HA.out.1.upd hu7 (by have := HA.out.2; simp; omega)) HA.out.2); clear HA; have HA := HA2; clear HA2)); (try (have HR2 := Lib.hid (And.intro (HR.out.1.upd hu7 (by have := HR.out.2; simp; omega)) HR.out.2); clear HR; have HR := HR2; clear HR2)); have HS2 := Lib.hid (HS.out.upd hu7); clear HS; have HS := HS2; clear HS2 HQ; clear hu7 hv7
        (try dsimp only)
        (try simp only [Act.put, List.setIfInBounds_toArray, List.set_cons_zero, List.set_cons_succ])
        clear hHeld
        refine hK.out _ _ ?_ (fun hHeld => ?_)
        · exact ⟨HS.out.sB, HS.out.pB⟩
        clear hK K
        (try simp only [Act.put, List.setIfInBounds_toArray, List.set_cons_zero, List.set_cons_succ])
        refine wpAnyM_take 7 (v := ?_) rfl (by kernel_rfl) (fun _ _ _ h => h) (Or.inl ⟨by rfl, ?_⟩) (by assumption) ?_
        rotate_left
        · (intro wx hSw; (try dsimp only at hSw); go_simp; (try with_reducible rfl))
        (try simp only [Act.put, List.setIfInBounds_toArray, List.set_cons_zero, List.set_cons_succ])
        refine wpAnyM_take 8 (v := ?_) rfl (by kernel_rfl) (fun _ _ _ h => h) (Or.inl ⟨by rfl, ?_⟩) (by assumption) ?_
        rotate_left
        · (intro wx hSw; (try dsimp only at hSw); go_simp; (try with_reducible rfl))
        (try simp only [Act.put, List.setIfInBounds_toArray, List.set_cons_zero, List.set_cons_succ])
        refine wpAnyM_take 9 (v := ?_) rfl (by kernel_rfl) (fun _ _ _ h => h) (Or.inl ⟨by rfl, ?_⟩) (by assumption) ?_
        rotate_left
        · (intro wx hSw; (try dsimp only at hSw); go_simp; (try with_reducible rfl))
        (try simp only [Act.put, List.setIfInBounds_toArray, List.set_cons_zero, List.set_cons_succ])
        refine wpAnyM_take 10 (v := ?_) rfl (by kernel_rfl) (fun _ _ _ h => h) (Or.inl ⟨by rfl, ?_⟩) (by assumption) ?_
        rotate_left
        · (intro wx hSw; (try dsimp only at hSw); go_simp; (try with_reducible rfl))
        (try simp only [Act.put, List.setIfInBounds_toArray, List.set_cons_zero, List.set_cons_succ])
        have HX := Lib.hid (blk_ne2 HR.out.1 HA.out.1 (by decide)); have HE := Lib.hid (And.intro (HR.out.1.setRow_other (arrv 24 SN) HX.out) HR.out.2); have HV2 := Lib.hid (And.intro (HV.out.1.row2 (arrv 24 SN) N8.out) HV.out.2); clear HV; have HV := HV2; clear HV2; have HS2 := Lib.hid (HS.out.row HA.out.2 (arrv 24 SN)); clear HS; have HS := HS2; clear HS2; have HB := Lib.hid (And.intro (HA.out.1.setRow SN) HA.out.2)
        clear hHeld
        refine wpAnyM_doneS 13 rfl (by kernel_rfl) (by rfl) (run_store_row 23 (.tmp 8) (.tmp 32) rfl _ rfl rfl HA.out.1 ist) ?_ (fun hHeld => ?_)
        · exact ⟨HS.out.sB, HS.out.pB⟩
        (try simp only [Act.put])
        have HV2 := Lib.hid (And.intro (HV.out.1.row2 (arrv 300 PN) N9.out) HV.out.2); clear HV; have HV := HV2; clear HV2; have HS2 := Lib.hid (HS.out.row HE.out.2 (arrv 300 PN)); clear HS; have HS := HS2; clear HS2; have HB2 := Lib.hid (And.intro (HB.out.1.setRow_other (arrv 300 PN) (fun e => HX.out e.symm)) HB.out.2); clear HB; have HB := HB2; clear HB2; have HC := Lib.hid (And.intro (HE.out.1.setRow PN) HE.out.2)
        clear hHeld
        refine wpAnyM_doneS 14 rfl (by kernel_rfl) (by rfl) (run_store_row 26 (.tmp 9) (.tmp 33) rfl _ rfl rfl HE.out.1 icov) ?_ (fun hHeld => ?_)
        · exact ⟨HS.out.sB, HS.out.pB⟩
        (try simp only [Act.put])
        refine wpAnyM_one 15 rfl (by kernel_rfl) (fun K hK => ?_)
        go_simp
        refine hK.out _ _ (.inl (by kernel_rfl)) (fun _ => ?_)
        clear hK K
        (try simp only [Act.put, List.setIfInBounds_toArray, List.set_cons_zero, List.set_cons_succ])
        refine wpAnyM_done (by kernel_rfl) ?_ _
        (go_wp2_with fail; obtain ⟨q3, cp3, hvq, hr⟩ := HV.out.1.toldG (lo := bc) (by have := HV.out.2; omega); (rw [hvq]); clear hvq; go_meet; exact ⟨_, _, _, _, rfl, rfl, rfl, Lib.hid ⟨HS.out, HB.out, HC.out, hr⟩⟩)
    · go_simp; have HR := Lib.hid (mn_cov HS.out _ (by first | (simp; rfl) | rfl)); (try (have N9 := Lib.hid (ownr_n HV.out.1 (by first | (simp; rfl) | rfl)); have HV2 := Lib.hid (And.intro (HV.out.1.alloc (.cells Try.zeroCells26 26)) HV.out.2); clear HV; have HV := HV2; clear HV2)); have HS2 := Lib.hid (HS.out.alloc (.cells Try.zeroCells26 26)); clear HS; have HS := HS2; clear HS2; (try (have HA2 := Lib.hid (And.intro (HA.out.1.alloc (.cells Try.zeroCells26 26)) HA.out.2); clear HA; have HA := HA2; clear HA2)); (try (have HQ2 := Lib.hid (HQ.out.below (Below.alloc (Below.refl _ _) (Nat.le_refl _) (.cells Try.zeroCells26 26))); clear HQ; have HQ := HQ2; clear HQ2))
      clear hHeld
      refine hK.out _ _ ?_ (fun hHeld => ?_)
      · exact ⟨HS.out.sB, HS.out.pB⟩
      clear hK K
      (try simp only [Act.put, List.setIfInBounds_toArray, List.set_cons_zero, List.set_cons_succ])
      refine wpAnyM_twoS 3 11 rfl rfl (by kernel_rfl) (fun K hK => ?_) (fun K hK => ?_)
      · refine if_pos_of (by rfl) (wp_bsl0_obs rfl ?_); have HS2 := Lib.hid (HS.out.alloc (.cells #[] 41)); clear HS; have HS := HS2; clear HS2; (try (have HA2 := Lib.hid (And.intro (HA.out.1.alloc (.cells #[] 41)) HA.out.2); clear HA; have HA := HA2; clear HA2)); (try (have HR2 := Lib.hid (And.intro (HR.out.1.alloc (.cells #[] 41)) HR.out.2); clear HR; have HR := HR2; clear HR2))
        clear hHeld
        refine hK.out _ _ ?_ (fun hHeld => ?_)
        · exact ⟨HS.out.sB, HS.out.pB⟩
        clear hK K
        (try simp only [Act.put, List.setIfInBounds_toArray, List.set_cons_zero, List.set_cons_succ])
        refine wpAnyM_twoS 5 11 rfl rfl (by kernel_rfl) (fun K hK => ?_) (fun K hK => ?_)
        · refine if_pos_of (by rfl) (wp_appAll_obs (.tmp 28) (.tmp 29) rfl _ q n cp O rfl rfl (HL.out.below HS.out.below) HZ.out n6 ?_); intro q2 cp2 w6 hb6 hm6; have HQ := Lib.hid hm6; have HS2 := Lib.hid (HS.out.down hb6); clear HS; have HS := HS2; clear HS2; (try (have HA2 := Lib.hid (And.intro (HA.out.1.below hb6) HA.out.2); clear HA; have HA := HA2; clear HA2)); (try (have HR2 := Lib.hid (And.intro (HR.out.1.below hb6) HR.out.2); clear HR; have HR := HR2; clear HR2)); clear hb6 hm6
          clear hHeld
          refine hK.out _ _ ?_ (fun hHeld => ?_)
          · exact ⟨HS.out.sB, HS.out.pB⟩
          clear hK K
          (try simp only [Act.put, List.setIfInBounds_toArray, List.set_cons_zero, List.set_cons_succ])
          refine wpAnyM_twoS 6 11 rfl rfl (by kernel_rfl) (fun K hK => ?_) (fun K hK => ?_)
          · go_simp
            (refine (AL.out _ HS.out.flg.cell HS.out.flg.free _ _ HQ.out).mono ?_); rintro e w7 ⟨v, rfl, hu7, hv7⟩; (try (have N8 := Lib.hid (ownr_a HA.out.1 hv7 (rfl : (0 : Nat) = 0)))); (try (have N9 := Lib.hid (ownr_a HR.out.1 hv7 (rfl : (0 : Nat) = 0)))); have HV := Lib.hid (And.intro hv7 HS.out.flg.lt); (try (have HA2 := Lib.hid (And.intro (HA.out.1.upd hu7 (by have := HA.out.2; simp; omega)) HA.out.2); clear HA; have HA := HA2; clear HA2)); (try (have HR2 := Lib.hid (And.intro (HR.out.1.upd hu7 (by have := HR.out.2; simp; omega)) HR.out.2); clear HR; have HR := HR2; clear HR2)); have HS2 := Lib.hid (HS.out.upd hu7); clear HS; have HS := HS2; clear HS2 HQ; clear hu7 hv7
            (try dsimp only)
            (try simp only [Act.put, List.setIfInBounds_toArray, List.set_cons_zero, List.set_cons_succ])
            clear hHeld
            refine hK.out _ _ ?_ (fun hHeld => ?_)
            · exact ⟨HS.out.sB, HS.out.pB⟩
            clear hK K
            (try simp only [Act.put, List.setIfInBounds_toArray, List.set_cons_zero, List.set_cons_succ])
            refine wpAnyM_take 7 (v := ?_) rfl (by kernel_rfl) (fun _ _ _ h => h) (Or.inl ⟨by rfl, ?_⟩) (by assumption) ?_
            rotate_left
            · (intro wx hSw; (try dsimp only at hSw); go_simp; (try with_reducible rfl))
            (try simp only [Act.put, List.setIfInBounds_toArray, List.set_cons_zero, List.set_cons_succ])
            refine wpAnyM_take 8 (v := ?_) rfl (by kernel_rfl) (fun _ _ _ h => h) (Or.inl ⟨by rfl, ?_⟩) (by assumption) ?_
            rotate_left
            · (intro wx hSw; (try dsimp only at hSw); go_simp; (try with_reducible rfl))
            (try simp only [Act.put, List.setIfInBounds_toArray, List.set_cons_zero, List.set_cons_succ])
            refine wpAnyM_take 9 (v := ?_) rfl (by kernel_rfl) (fun _ _ _ h => h) (Or.inl ⟨by rfl, ?_⟩) (by assumption) ?_
            rotate_left
            · (intro wx hSw; (try dsimp only at hSw); go_simp; (try with_reducible rfl))
            (try simp only [Act.put, List.setIfInBounds_toArray, List.set_cons_zero, List.set_cons_succ])
            refine wpAnyM_take 10 (v := ?_) rfl (by kernel_rfl) (fun _ _ _ h => h) (Or.inl ⟨by rfl, ?_⟩) (by assumption) ?_
            rotate_left
            · (intro wx hSw; (try dsimp only at hSw); go_simp; (try with_reducible rfl))
            (try simp only [Act.put, List.setIfInBounds_toArray, List.set_cons_zero, List.set_cons_succ])
            refine wpAnyM_oneS 11 rfl (by kernel_rfl) (fun K hK => ?_)
            go_simp; have HA := Lib.hid (mn_st HS.out _ (by first | (simp; rfl) | rfl)); (try (have N8 := Lib.hid (ownr_n HV.out.1 (by first | (simp; rfl) | rfl)); have HV2 := Lib.hid (And.intro (HV.out.1.alloc (.cells #[.int .i64 0, .int .i64 0, .int .i64 0, .int .i64 0, .int .i64 0, .int .i64 0, .int .i64 0, .int .i64 0, .int .i64 0, .int .i64 0, .int .i64 0, .int .i64 0, .int .i64 0, .int .i64 0, .int .i64 0, .int .i64 0, .int .i64 0, .int .i64 0, .int .i64 0, .int .i64 0, .int .i64 0, .int .i64 0, .int .i64 0, .int .i64 0] 23)) HV.out.2); clear HV; have HV := HV2; clear HV2)); have HS2 := Lib.hid (HS.out.alloc (.cells #[.int .i64 0, .int .i64 0, .int .i64 0, .int .i64 0, .int .i64 0, .int .i64 0, .int .i64 0, .int .i64 0, .int .i64 0, .int .i64 0, .int .i64 0, .int .i64 0, .int .i64 0, .int .i64 0, .int .i64 0, .int .i64 0, .int .i64 0, .int .i64 0, .int .i64 0, .int .i64 0, .int .i64 0, .int .i64 0, .int .i64 0, .int .i64 0] 23)); clear HS; have HS := HS2; clear HS2; (try (have HR2 := Lib.hid (And.intro (HR.out.1.alloc (.cells #[.int .i64 0, .int .i64 0, .int .i64 0, .int .i64 0, .int .i64 0, .int .i64 0, .int .i64 0, .int .i64 0, .int .i64 0, .int .i64 0, .int .i64 0, .int .i64 0, .int .i64 0, .int .i64 0, .int .i64 0, .int .i64 0, .int .i64 0, .int .i64 0, .int .i64 0, .int .i64 0, .int .i64 0, .int .i64 0, .int .i64 0, .int .i64 0] 23)) HR.out.2); clear HR; have HR := HR2; clear HR2)); (try (have HQ2 := Lib.hid (HQ.out.below (Below.alloc (Below.refl _ _) (Nat.le_refl _) (.cells #[.int .i64 0, .int .i64 0, .int .i64 0, .int .i64 0, .int .i64 0, .int .i64 0, .int .i64 0, .int .i64 0, .int .i64 0, .int .i64 0, .int .i64 0, .int .i64 0, .int .i64 0, .int .i64 0, .int .i64 0, .int .i64 0, .int .i64 0, .int .i64 0, .int .i64 0, .int .i64 0, .int .i64 0, .int .i64 0, .int .i64 0, .int .i64 0] 23))); clear HQ; have HQ := HQ2; clear HQ2))
            clear hHeld
            refine hK.out _ _ ?_ (fun hHeld => ?_)
            · exact ⟨HS.out.sB, HS.out.pB⟩
            clear hK K
            (try simp only [Act.put, List.setIfInBounds_toArray, List.set_cons_zero, List.set_cons_succ])
            have HX := Lib.hid (blk_ne2 HR.out.1 HA.out.1 (by decide)); have HE := Lib.hid (And.intro (HR.out.1.setRow_other (arrv 24 SN) HX.out) HR.out.2); have HV2 := Lib.hid (And.intro (HV.out.1.row2 (arrv 24 SN) N8.out) HV.out.2); clear HV; have HV := HV2; clear HV2; have HS2 := Lib.hid (HS.out.row HA.out.2 (arrv 24 SN)); clear HS; have HS := HS2; clear HS2; have HB := Lib.hid (And.intro (HA.out.1.setRow SN) HA.out.2)
            clear hHeld
            refine wpAnyM_doneS 13 rfl (by kernel_rfl) (by rfl) (run_store_row 23 (.tmp 8) (.tmp 32) rfl _ rfl rfl HA.out.1 ist) ?_ (fun hHeld => ?_)
            · exact ⟨HS.out.sB, HS.out.pB⟩
            (try simp only [Act.put])
            have HV2 := Lib.hid (And.intro (HV.out.1.row2 (arrv 300 PN) N9.out) HV.out.2); clear HV; have HV := HV2; clear HV2; have HS2 := Lib.hid (HS.out.row HE.out.2 (arrv 300 PN)); clear HS; have HS := HS2; clear HS2; have HB2 := Lib.hid (And.intro (HB.out.1.setRow_other (arrv 300 PN) (fun e => HX.out e.symm)) HB.out.2); clear HB; have HB := HB2; clear HB2; have HC := Lib.hid (And.intro (HE.out.1.setRow PN) HE.out.2)
            clear hHeld
            refine wpAnyM_doneS 14 rfl (by kernel_rfl) (by rfl) (run_store_row 26 (.tmp 9) (.tmp 33) rfl _ rfl rfl HE.out.1 icov) ?_ (fun hHeld => ?_)
            · exact ⟨HS.out.sB, HS.out.pB⟩
            (try simp only [Act.put])
            refine wpAnyM_one 15 rfl (by kernel_rfl) (fun K hK => ?_)
            go_simp
            refine hK.out _ _ (.inl (by kernel_rfl)) (fun _ => ?_)
            clear hK K
            (try simp only [Act.put, List.setIfInBounds_toArray, List.set_cons_zero, List.set_cons_succ])
            refine wpAnyM_done (by kernel_rfl) ?_ _
            (go_wp2_with fail; obtain ⟨q3, cp3, hvq, hr⟩ := HV.out.1.toldG (lo := bc) (by have := HV.out.2; omega); (rw [hvq]); clear hvq; go_meet; exact ⟨_, _, _, _, rfl, rfl, rfl, Lib.hid ⟨HS.out, HB.out, HC.out, hr⟩⟩)
          · go_simp; have HA := Lib.hid (mn_st HS.out _ (by first | (simp; rfl) | rfl)); (try (have N8 := Lib.hid (ownr_n HV.out.1 (by first | (simp; rfl) | rfl)); have HV2 := Lib.hid (And.intro (HV.out.1.alloc (.cells #[.int .i64 0, .int .i64 0, .int .i64 0, .int .i64 0, .int .i64 0, .int .i64 0, .int .i64 0, .int .i64 0, .int .i64 0, .int .i64 0, .int .i64 0, .int .i64 0, .int .i64 0, .int .i64 0, .int .i64 0, .int .i64 0, .int .i64 0, .int .i64 0, .int .i64 0, .int .i64 0, .int .i64 0, .int .i64 0, .int .i64 0, .int .i64 0] 23)) HV.out.2); clear HV; have HV := HV2; clear HV2)); have HS2 := Lib.hid (HS.out.alloc (.cells #[.int .i64 0, .int .i64 0, .int .i64 0, .int .i64 0, .int .i64 0, .int .i64 0, .int .i64 0, .int .i64 0, .int .i64 0, .int .i64 0, .int .i64 0, .int .i64 0, .int .i64 0, .int .i64 0, .int .i64 0, .int .i64 0, .int .i64 0, .int .i64 0, .int .i64 0, .int .i64 0, .int .i64 0, .int .i64 0, .int .i64 0, .int .i64 0] 23)); clear HS; have HS := HS2; clear HS2; (try (have HR2 := Lib.hid (And.intro (HR.out.1.alloc (.cells #[.int .i64 0, .int .i64 0, .int .i64 0, .int .i64 0, .int .i64 0, .int .i64 0, .int .i64 0, .int .i64 0, .int .i64 0, .int .i64 0, .int .i64 0, .int .i64 0, .int .i64 0, .int .i64 0, .int .i64 0, .int .i64 0, .int .i64 0, .int .i64 0, .int .i64 0, .int .i64 0, .int .i64 0, .int .i64 0, .int .i64 0, .int .i64 0] 23)) HR.out.2); clear HR; have HR := HR2; clear HR2)); (try (have HQ2 := Lib.hid (HQ.out.below (Below.alloc (Below.refl _ _) (Nat.le_refl _) (.cells #[.int .i64 0, .int .i64 0, .int .i64 0, .int .i64 0, .int .i64 0, .int .i64 0, .int .i64 0, .int .i64 0, .int .i64 0, .int .i64 0, .int .i64 0, .int .i64 0, .int .i64 0, .int .i64 0, .int .i64 0, .int .i64 0, .int .i64 0, .int .i64 0, .int .i64 0, .int .i64 0, .int .i64 0, .int .i64 0, .int .i64 0, .int .i64 0] 23))); clear HQ; have HQ := HQ2; clear HQ2))
            clear hHeld
            refine hK.out _ _ ?_ (fun hHeld => ?_)
            · exact ⟨HS.out.sB, HS.out.pB⟩
            clear hK K
            (try simp only [Act.put, List.setIfInBounds_toArray, List.set_cons_zero, List.set_cons_succ])
            refine wpAnyM_oneS 6 rfl (by kernel_rfl) (fun K hK => ?_)
            go_simp
            (refine (AL.out _ HS.out.flg.cell HS.out.flg.free _ _ HQ.out).mono ?_); rintro e w7 ⟨v, rfl, hu7, hv7⟩; (try (have N8 := Lib.hid (ownr_a HA.out.1 hv7 (rfl : (0 : Nat) = 0)))); (try (have N9 := Lib.hid (ownr_a HR.out.1 hv7 (rfl : (0 : Nat) = 0)))); have HV := Lib.hid (And.intro hv7 HS.out.flg.lt); (try (have HA2 := Lib.hid (And.intro (HA.out.1.upd hu7 (by have := HA.out.2; simp; omega)) HA.out.2); clear HA; have HA := HA2; clear HA2)); (try (have HR2 := Lib.hid (And.intro (HR.out.1.upd hu7 (by have := HR.out.2; simp; omega)) HR.out.2); clear HR; have HR := HR2; clear HR2)); have HS2 := Lib.hid (HS.out.upd hu7); clear HS; have HS := HS2; clear HS2 HQ; clear hu7 hv7
            (try dsimp only)
            (try simp only [Act.put, List.setIfInBounds_toArray, List.set_cons_zero, List.set_cons_succ])
            clear hHeld
            refine hK.out _ _ ?_ (fun hHeld => ?_)
            · exact ⟨HS.out.sB, HS.out.pB⟩
            clear hK K
            (try simp only [Act.put, List.setIfInBounds_toArray, List.set_cons_zero, List.set_cons_succ])
            refine wpAnyM_take 7 (v := ?_) rfl (by kernel_rfl) (fun _ _ _ h => h) (Or.inl ⟨by rfl, ?_⟩) (by assumption) ?_
            rotate_left
            · (intro wx hSw; (try dsimp only at hSw); go_simp; (try with_reducible rfl))
            (try simp only [Act.put, List.setIfInBounds_toArray, List.set_cons_zero, List.set_cons_succ])
            refine wpAnyM_take 8 (v := ?_) rfl (by kernel_rfl) (fun _ _ _ h => h) (Or.inl ⟨by rfl, ?_⟩) (by assumption) ?_
            rotate_left
            · (intro wx hSw; (try dsimp only at hSw); go_simp; (try with_reducible rfl))
            (try simp only [Act.put, List.setIfInBounds_toArray, List.set_cons_zero, List.set_cons_succ])
            refine wpAnyM_take 9 (v := ?_) rfl (by kernel_rfl) (fun _ _ _ h => h) (Or.inl ⟨by rfl, ?_⟩) (by assumption) ?_
            rotate_left
            · (intro wx hSw; (try dsimp only at hSw); go_simp; (try with_reducible rfl))
            (try simp only [Act.put, List.setIfInBounds_toArray, List.set_cons_zero, List.set_cons_succ])
            refine wpAnyM_take 10 (v := ?_) rfl (by kernel_rfl) (fun _ _ _ h => h) (Or.inl ⟨by rfl, ?_⟩) (by assumption) ?_
            rotate_left
            · (intro wx hSw; (try dsimp only at hSw); go_simp; (try with_reducible rfl))
            (try simp only [Act.put, List.setIfInBounds_toArray, List.set_cons_zero, List.set_cons_succ])
            have HX := Lib.hid (blk_ne2 HR.out.1 HA.out.1 (by decide)); have HE := Lib.hid (And.intro (HR.out.1.setRow_other (arrv 24 SN) HX.out) HR.out.2); have HV2 := Lib.hid (And.intro (HV.out.1.row2 (arrv 24 SN) N8.out) HV.out.2); clear HV; have HV := HV2; clear HV2; have HS2 := Lib.hid (HS.out.row HA.out.2 (arrv 24 SN)); clear HS; have HS := HS2; clear HS2; have HB := Lib.hid (And.intro (HA.out.1.setRow SN) HA.out.2)
            clear hHeld
            refine wpAnyM_doneS 13 rfl (by kernel_rfl) (by rfl) (run_store_row 23 (.tmp 8) (.tmp 32) rfl _ rfl rfl HA.out.1 ist) ?_ (fun hHeld => ?_)
            · exact ⟨HS.out.sB, HS.out.pB⟩
            (try simp only [Act.put])
            have HV2 := Lib.hid (And.intro (HV.out.1.row2 (arrv 300 PN) N9.out) HV.out.2); clear HV; have HV := HV2; clear HV2; have HS2 := Lib.hid (HS.out.row HE.out.2 (arrv 300 PN)); clear HS; have HS := HS2; clear HS2; have HB2 := Lib.hid (And.intro (HB.out.1.setRow_other (arrv 300 PN) (fun e => HX.out e.symm)) HB.out.2); clear HB; have HB := HB2; clear HB2; have HC := Lib.hid (And.intro (HE.out.1.setRow PN) HE.out.2)
            clear hHeld
            refine wpAnyM_doneS 14 rfl (by kernel_rfl) (by rfl) (run_store_row 26 (.tmp 9) (.tmp 33) rfl _ rfl rfl HE.out.1 icov) ?_ (fun hHeld => ?_)
            · exact ⟨HS.out.sB, HS.out.pB⟩
            (try simp only [Act.put])
            refine wpAnyM_one 15 rfl (by kernel_rfl) (fun K hK => ?_)
            go_simp
            refine hK.out _ _ (.inl (by kernel_rfl)) (fun _ => ?_)
            clear hK K
            (try simp only [Act.put, List.setIfInBounds_toArray, List.set_cons_zero, List.set_cons_succ])
            refine wpAnyM_done (by kernel_rfl) ?_ _
            (go_wp2_with fail; obtain ⟨q3, cp3, hvq, hr⟩ := HV.out.1.toldG (lo := bc) (by have := HV.out.2; omega); (rw [hvq]); clear hvq; go_meet; exact ⟨_, _, _, _, rfl, rfl, rfl, Lib.hid ⟨HS.out, HB.out, HC.out, hr⟩⟩)
        · go_simp; have HA := Lib.hid (mn_st HS.out _ (by first | (simp; rfl) | rfl)); (try (have N8 := Lib.hid (ownr_n HV.out.1 (by first | (simp; rfl) | rfl)); have HV2 := Lib.hid (And.intro (HV.out.1.alloc (.cells #[.int .i64 0, .int .i64 0, .int .i64 0, .int .i64 0, .int .i64 0, .int .i64 0, .int .i64 0, .int .i64 0, .int .i64 0, .int .i64 0, .int .i64 0, .int .i64 0, .int .i64 0, .int .i64 0, .int .i64 0, .int .i64 0, .int .i64 0, .int .i64 0, .int .i64 0, .int .i64 0, .int .i64 0, .int .i64 0, .int .i64 0, .int .i64 0] 23)) HV.out.2); clear HV; have HV := HV2; clear HV2)); have HS2 := Lib.hid (HS.out.alloc (.cells #[.int .i64 0, .int .i64 0, .int .i64 0, .int .i64 0, .int .i64 0, .int .i64 0, .int .i64 0, .int .i64 0, .int .i64 0, .int .i64 0, .int .i64 0, .int .i64 0, .int .i64 0, .int .i64 0, .int .i64 0, .int .i64 0, .int .i64 0, .int .i64 0, .int .i64 0, .int .i64 0, .int .i64 0, .int .i64 0, .int .i64 0, .int .i64 0] 23)); clear HS; have HS := HS2; clear HS2; (try (have HR2 := Lib.hid (And.intro (HR.out.1.alloc (.cells #[.int .i64 0, .int .i64 0, .int .i64 0, .int .i64 0, .int .i64 0, .int .i64 0, .int .i64 0, .int .i64 0, .int .i64 0, .int .i64 0, .int .i64 0, .int .i64 0, .int .i64 0, .int .i64 0, .int .i64 0, .int .i64 0, .int .i64 0, .int .i64 0, .int .i64 0, .int .i64 0, .int .i64 0, .int .i64 0, .int .i64 0, .int .i64 0] 23)) HR.out.2); clear HR; have HR := HR2; clear HR2)); (try (have HQ2 := Lib.hid (HQ.out.below (Below.alloc (Below.refl _ _) (Nat.le_refl _) (.cells #[.int .i64 0, .int .i64 0, .int .i64 0, .int .i64 0, .int .i64 0, .int .i64 0, .int .i64 0, .int .i64 0, .int .i64 0, .int .i64 0, .int .i64 0, .int .i64 0, .int .i64 0, .int .i64 0, .int .i64 0, .int .i64 0, .int .i64 0, .int .i64 0, .int .i64 0, .int .i64 0, .int .i64 0, .int .i64 0, .int .i64 0, .int .i64 0] 23))); clear HQ; have HQ := HQ2; clear HQ2))
          clear hHeld
          refine hK.out _ _ ?_ (fun hHeld => ?_)
          · exact ⟨HS.out.sB, HS.out.pB⟩
          clear hK K
          (try simp only [Act.put, List.setIfInBounds_toArray, List.set_cons_zero, List.set_cons_succ])
          refine wpAnyM_oneS 5 rfl (by kernel_rfl) (fun K hK => ?_)
          refine if_pos_of (by rfl) (wp_appAll_obs (.tmp 28) (.tmp 29) rfl _ q n cp O rfl rfl (HL.out.below HS.out.below) HZ.out n6 ?_); intro q2 cp2 w6 hb6 hm6; have HQ := Lib.hid hm6; have HS2 := Lib.hid (HS.out.down hb6); clear HS; have HS := HS2; clear HS2; (try (have HA2 := Lib.hid (And.intro (HA.out.1.below hb6) HA.out.2); clear HA; have HA := HA2; clear HA2)); (try (have HR2 := Lib.hid (And.intro (HR.out.1.below hb6) HR.out.2); clear HR; have HR := HR2; clear HR2)); clear hb6 hm6
          clear hHeld
          refine hK.out _ _ ?_ (fun hHeld => ?_)
          · exact ⟨HS.out.sB, HS.out.pB⟩
          clear hK K
          (try simp only [Act.put, List.setIfInBounds_toArray, List.set_cons_zero, List.set_cons_succ])
          refine wpAnyM_oneS 6 rfl (by kernel_rfl) (fun K hK => ?_)
          go_simp
          (refine (AL.out _ HS.out.flg.cell HS.out.flg.free _ _ HQ.out).mono ?_); rintro e w7 ⟨v, rfl, hu7, hv7⟩; (try (have N8 := Lib.hid (ownr_a HA.out.1 hv7 (rfl : (0 : Nat) = 0)))); (try (have N9 := Lib.hid (ownr_a HR.out.1 hv7 (rfl : (0 : Nat) = 0)))); have HV := Lib.hid (And.intro hv7 HS.out.flg.lt); (try (have HA2 := Lib.hid (And.intro (HA.out.1.upd hu7 (by have := HA.out.2; simp; omega)) HA.out.2); clear HA; have HA := HA2; clear HA2)); (try (have HR2 := Lib.hid (And.intro (HR.out.1.upd hu7 (by have := HR.out.2; simp; omega)) HR.out.2); clear HR; have HR := HR2; clear HR2)); have HS2 := Lib.hid (HS.out.upd hu7); clear HS; have HS := HS2; clear HS2 HQ; clear hu7 hv7
          (try dsimp only)
          (try simp only [Act.put, List.setIfInBounds_toArray, List.set_cons_zero, List.set_cons_succ])
          clear hHeld
          refine hK.out _ _ ?_ (fun hHeld => ?_)
          · exact ⟨HS.out.sB, HS.out.pB⟩
          clear hK K
          (try simp only [Act.put, List.setIfInBounds_toArray, List.set_cons_zero, List.set_cons_succ])
          refine wpAnyM_take 7 (v := ?_) rfl (by kernel_rfl) (fun _ _ _ h => h) (Or.inl ⟨by rfl, ?_⟩) (by assumption) ?_
          rotate_left
          · (intro wx hSw; (try dsimp only at hSw); go_simp; (try with_reducible rfl))
          (try simp only [Act.put, List.setIfInBounds_toArray, List.set_cons_zero, List.set_cons_succ])
          refine wpAnyM_take 8 (v := ?_) rfl (by kernel_rfl) (fun _ _ _ h => h) (Or.inl ⟨by rfl, ?_⟩) (by assumption) ?_
          rotate_left
          · (intro wx hSw; (try dsimp only at hSw); go_simp; (try with_reducible rfl))
          (try simp only [Act.put, List.setIfInBounds_toArray, List.set_cons_zero, List.set_cons_succ])
          refine wpAnyM_take 9 (v := ?_) rfl (by kernel_rfl) (fun _ _ _ h => h) (Or.inl ⟨by rfl, ?_⟩) (by assumption) ?_
          rotate_left
          · (intro wx hSw; (try dsimp only at hSw); go_simp; (try with_reducible rfl))
          (try simp only [Act.put, List.setIfInBounds_toArray, List.set_cons_zero, List.set_cons_succ])
          refine wpAnyM_take 10 (v := ?_) rfl (by kernel_rfl) (fun _ _ _ h => h) (Or.inl ⟨by rfl, ?_⟩) (by assumption) ?_
          rotate_left
          · (intro wx hSw; (try dsimp only at hSw); go_simp; (try with_reducible rfl))
          (try simp only [Act.put, List.setIfInBounds_toArray, List.set_cons_zero, List.set_cons_succ])
          have HX := Lib.hid (blk_ne2 HR.out.1 HA.out.1 (by decide)); have HE := Lib.hid (And.intro (HR.out.1.setRow_other (arrv 24 SN) HX.out) HR.out.2); have HV2 := Lib.hid (And.intro (HV.out.1.row2 (arrv 24 SN) N8.out) HV.out.2); clear HV; have HV := HV2; clear HV2; have HS2 := Lib.hid (HS.out.row HA.out.2 (arrv 24 SN)); clear HS; have HS := HS2; clear HS2; have HB := Lib.hid (And.intro (HA.out.1.setRow SN) HA.out.2)
          clear hHeld
          refine wpAnyM_doneS 13 rfl (by kernel_rfl) (by rfl) (run_store_row 23 (.tmp 8) (.tmp 32) rfl _ rfl rfl HA.out.1 ist) ?_ (fun hHeld => ?_)
          · exact ⟨HS.out.sB, HS.out.pB⟩
          (try simp only [Act.put])
          have HV2 := Lib.hid (And.intro (HV.out.1.row2 (arrv 300 PN) N9.out) HV.out.2); clear HV; have HV := HV2; clear HV2; have HS2 := Lib.hid (HS.out.row HE.out.2 (arrv 300 PN)); clear HS; have HS := HS2; clear HS2; have HB2 := Lib.hid (And.intro (HB.out.1.setRow_other (arrv 300 PN) (fun e => HX.out e.symm)) HB.out.2); clear HB; have HB := HB2; clear HB2; have HC := Lib.hid (And.intro (HE.out.1.setRow PN) HE.out.2)
          clear hHeld
          refine wpAnyM_doneS 14 rfl (by kernel_rfl) (by rfl) (run_store_row 26 (.tmp 9) (.tmp 33) rfl _ rfl rfl HE.out.1 icov) ?_ (fun hHeld => ?_)
          · exact ⟨HS.out.sB, HS.out.pB⟩
          (try simp only [Act.put])
          refine wpAnyM_one 15 rfl (by kernel_rfl) (fun K hK => ?_)
          go_simp
          refine hK.out _ _ (.inl (by kernel_rfl)) (fun _ => ?_)
          clear hK K
          (try simp only [Act.put, List.setIfInBounds_toArray, List.set_cons_zero, List.set_cons_succ])
          refine wpAnyM_done (by kernel_rfl) ?_ _
          (go_wp2_with fail; obtain ⟨q3, cp3, hvq, hr⟩ := HV.out.1.toldG (lo := bc) (by have := HV.out.2; omega); (rw [hvq]); clear hvq; go_meet; exact ⟨_, _, _, _, rfl, rfl, rfl, Lib.hid ⟨HS.out, HB.out, HC.out, hr⟩⟩)
      · go_simp; have HA := Lib.hid (mn_st HS.out _ (by first | (simp; rfl) | rfl)); (try (have N8 := Lib.hid (ownr_n HV.out.1 (by first | (simp; rfl) | rfl)); have HV2 := Lib.hid (And.intro (HV.out.1.alloc (.cells #[.int .i64 0, .int .i64 0, .int .i64 0, .int .i64 0, .int .i64 0, .int .i64 0, .int .i64 0, .int .i64 0, .int .i64 0, .int .i64 0, .int .i64 0, .int .i64 0, .int .i64 0, .int .i64 0, .int .i64 0, .int .i64 0, .int .i64 0, .int .i64 0, .int .i64 0, .int .i64 0, .int .i64 0, .int .i64 0, .int .i64 0, .int .i64 0] 23)) HV.out.2); clear HV; have HV := HV2; clear HV2)); have HS2 := Lib.hid (HS.out.alloc (.cells #[.int .i64 0, .int .i64 0, .int .i64 0, .int .i64 0, .int .i64 0, .int .i64 0, .int .i64 0, .int .i64 0, .int .i64 0, .int .i64 0, .int .i64 0, .int .i64 0, .int .i64 0, .int .i64 0, .int .i64 0, .int .i64 0, .int .i64 0, .int .i64 0, .int .i64 0, .int .i64 0, .int .i64 0, .int .i64 0, .int .i64 0, .int .i64 0] 23)); clear HS; have HS := HS2; clear HS2; (try (have HR2 := Lib.hid (And.intro (HR.out.1.alloc (.cells #[.int .i64 0, .int .i64 0, .int .i64 0, .int .i64 0, .int .i64 0, .int .i64 0, .int .i64 0, .int .i64 0, .int .i64 0, .int .i64 0, .int .i64 0, .int .i64 0, .int .i64 0, .int .i64 0, .int .i64 0, .int .i64 0, .int .i64 0, .int .i64 0, .int .i64 0, .int .i64 0, .int .i64 0, .int .i64 0, .int .i64 0, .int .i64 0] 23)) HR.out.2); clear HR; have HR := HR2; clear HR2)); (try (have HQ2 := Lib.hid (HQ.out.below (Below.alloc (Below.refl _ _) (Nat.le_refl _) (.cells #[.int .i64 0, .int .i64 0, .int .i64 0, .int .i64 0, .int .i64 0, .int .i64 0, .int .i64 0, .int .i64 0, .int .i64 0, .int .i64 0, .int .i64 0, .int .i64 0, .int .i64 0, .int .i64 0, .int .i64 0, .int .i64 0, .int .i64 0, .int .i64 0, .int .i64 0, .int .i64 0, .int .i64 0, .int .i64 0, .int .i64 0, .int .i64 0] 23))); clear HQ; have HQ := HQ2; clear HQ2))
        clear hHeld
        refine hK.out _ _ ?_ (fun hHeld => ?_)
        · exact ⟨HS.out.sB, HS.out.pB⟩
        clear hK K
        (try simp only [Act.put, List.setIfInBounds_toArray, List.set_cons_zero, List.set_cons_succ])
        refine wpAnyM_oneS 3 rfl (by kernel_rfl) (fun K hK => ?_)
        refine if_pos_of (by rfl) (wp_bsl0_obs rfl ?_); have HS2 := Lib.hid (HS.out.alloc (.cells #[] 41)); clear HS; have HS := HS2; clear HS2; (try (have HA2 := Lib.hid (And.intro (HA.out.1.alloc (.cells #[] 41)) HA.out.2); clear HA; have HA := HA2; clear HA2)); (try (have HR2 := Lib.hid (And.intro (HR.out.1.alloc (.cells #[] 41)) HR.out.2); clear HR; have HR := HR2; clear HR2))
        clear hHeld
        refine hK.out _ _ ?_ (fun hHeld => ?_)
        · exact ⟨HS.out.sB, HS.out.pB⟩
        clear hK K
        (try simp only [Act.put, List.setIfInBounds_toArray, List.set_cons_zero, List.set_cons_succ])
        refine wpAnyM_oneS 5 rfl (by kernel_rfl) (fun K hK => ?_)
        refine if_pos_of (by rfl) (wp_appAll_obs (.tmp 28) (.tmp 29) rfl _ q n cp O rfl rfl (HL.out.below HS.out.below) HZ.out n6 ?_); intro q2 cp2 w6 hb6 hm6; have HQ := Lib.hid hm6; have HS2 := Lib.hid (HS.out.down hb6); clear HS; have HS := HS2; clear HS2; (try (have HA2 := Lib.hid (And.intro (HA.out.1.below hb6) HA.out.2); clear HA; have HA := HA2; clear HA2)); (try (have HR2 := Lib.hid (And.intro (HR.out.1.below hb6) HR.out.2); clear HR; have HR := HR2; clear HR2)); clear hb6 hm6
        clear hHeld
        refine hK.out _ _ ?_ (fun hHeld => ?_)
        · exact ⟨HS.out.sB, HS.out.pB⟩
        clear hK K
        (try simp only [Act.put, List.setIfInBounds_toArray, List.set_cons_zero, List.set_cons_succ])
        refine wpAnyM_oneS 6 rfl (by kernel_rfl) (fun K hK => ?_)
        go_simp
        (refine (AL.out _ HS.out.flg.cell HS.out.flg.free _ _ HQ.out).mono ?_); rintro e w7 ⟨v, rfl, hu7, hv7⟩; (try (have N8 := Lib.hid (ownr_a HA.out.1 hv7 (rfl : (0 : Nat) = 0)))); (try (have N9 := Lib.hid (ownr_a HR.out.1 hv7 (rfl : (0 : Nat) = 0)))); have HV := Lib.hid (And.intro hv7 HS.out.flg.lt); (try (have HA2 := Lib.hid (And.intro (HA.out.1.upd hu7 (by have := HA.out.2; simp; omega)) HA.out.2); clear HA; have HA := HA2; clear HA2)); (try (have HR2 := Lib.hid (And.intro (HR.out.1.upd hu7 (by have := HR.out.2; simp; omega)) HR.out.2); clear HR; have HR := HR2; clear HR2)); have HS2 := Lib.hid (HS.out.upd hu7); clear HS; have HS := HS2; clear HS2 HQ; clear hu7 hv7
        (try dsimp only)
        (try simp only [Act.put, List.setIfInBounds_toArray, List.set_cons_zero, List.set_cons_succ])
        clear hHeld
        refine hK.out _ _ ?_ (fun hHeld => ?_)
        · exact ⟨HS.out.sB, HS.out.pB⟩
        clear hK K
        (try simp only [Act.put, List.setIfInBounds_toArray, List.set_cons_zero, List.set_cons_succ])
        refine wpAnyM_take 7 (v := ?_) rfl (by kernel_rfl) (fun _ _ _ h => h) (Or.inl ⟨by rfl, ?_⟩) (by assumption) ?_
        rotate_left
        · (intro wx hSw; (try dsimp only at hSw); go_simp; (try with_reducible rfl))
        (try simp only [Act.put, List.setIfInBounds_toArray, List.set_cons_zero, List.set_cons_succ])
        refine wpAnyM_take 8 (v := ?_) rfl (by kernel_rfl) (fun _ _ _ h => h) (Or.inl ⟨by rfl, ?_⟩) (by assumption) ?_
        rotate_left
        · (intro wx hSw; (try dsimp only at hSw); go_simp; (try with_reducible rfl))
        (try simp only [Act.put, List.setIfInBounds_toArray, List.set_cons_zero, List.set_cons_succ])
        refine wpAnyM_take 9 (v := ?_) rfl (by kernel_rfl) (fun _ _ _ h => h) (Or.inl ⟨by rfl, ?_⟩) (by assumption) ?_
        rotate_left
        · (intro wx hSw; (try dsimp only at hSw); go_simp; (try with_reducible rfl))
        (try simp only [Act.put, List.setIfInBounds_toArray, List.set_cons_zero, List.set_cons_succ])
        refine wpAnyM_take 10 (v := ?_) rfl (by kernel_rfl) (fun _ _ _ h => h) (Or.inl ⟨by rfl, ?_⟩) (by assumption) ?_
        rotate_left
        · (intro wx hSw; (try dsimp only at hSw); go_simp; (try with_reducible rfl))
        (try simp only [Act.put, List.setIfInBounds_toArray, List.set_cons_zero, List.set_cons_succ])
        have HX := Lib.hid (blk_ne2 HR.out.1 HA.out.1 (by decide)); have HE := Lib.hid (And.intro (HR.out.1.setRow_other (arrv 24 SN) HX.out) HR.out.2); have HV2 := Lib.hid (And.intro (HV.out.1.row2 (arrv 24 SN) N8.out) HV.out.2); clear HV; have HV := HV2; clear HV2; have HS2 := Lib.hid (HS.out.row HA.out.2 (arrv 24 SN)); clear HS; have HS := HS2; clear HS2; have HB := Lib.hid (And.intro (HA.out.1.setRow SN) HA.out.2)
        clear hHeld
        refine wpAnyM_doneS 13 rfl (by kernel_rfl) (by rfl) (run_store_row 23 (.tmp 8) (.tmp 32) rfl _ rfl rfl HA.out.1 ist) ?_ (fun hHeld => ?_)
        · exact ⟨HS.out.sB, HS.out.pB⟩
        (try simp only [Act.put])
        have HV2 := Lib.hid (And.intro (HV.out.1.row2 (arrv 300 PN) N9.out) HV.out.2); clear HV; have HV := HV2; clear HV2; have HS2 := Lib.hid (HS.out.row HE.out.2 (arrv 300 PN)); clear HS; have HS := HS2; clear HS2; have HB2 := Lib.hid (And.intro (HB.out.1.setRow_other (arrv 300 PN) (fun e => HX.out e.symm)) HB.out.2); clear HB; have HB := HB2; clear HB2; have HC := Lib.hid (And.intro (HE.out.1.setRow PN) HE.out.2)
        clear hHeld
        refine wpAnyM_doneS 14 rfl (by kernel_rfl) (by rfl) (run_store_row 26 (.tmp 9) (.tmp 33) rfl _ rfl rfl HE.out.1 icov) ?_ (fun hHeld => ?_)
        · exact ⟨HS.out.sB, HS.out.pB⟩
        (try simp only [Act.put])
        refine wpAnyM_one 15 rfl (by kernel_rfl) (fun K hK => ?_)
        go_simp
        refine hK.out _ _ (.inl (by kernel_rfl)) (fun _ => ?_)
        clear hK K
        (try simp only [Act.put, List.setIfInBounds_toArray, List.set_cons_zero, List.set_cons_succ])
        refine wpAnyM_done (by kernel_rfl) ?_ _
        (go_wp2_with fail; obtain ⟨q3, cp3, hvq, hr⟩ := HV.out.1.toldG (lo := bc) (by have := HV.out.2; omega); (rw [hvq]); clear hvq; go_meet; exact ⟨_, _, _, _, rfl, rfl, rfl, Lib.hid ⟨HS.out, HB.out, HC.out, hr⟩⟩)
  case rest =>
    obtain ⟨b8, b9, pr, cr, rfl, rfl, rfl, HB⟩ := hcut
    clear HS AL
    rename World => wx
    have L8 : Hid (MnL bc wx.heap.size FN S P false wx w (wx.alloc (.cells #[.bool false] 31))) := Lib.hid ⟨HB.out.1.alloc _, Flg.new wx false, fun b h1 h2 => ((Below.refl wx.heap.size wx).alloc (Nat.le_refl _) _).block b h2, HB.out.1.flg.lt⟩
    go_upto_region 8 with fail
    obtain ⟨bd, hbd⟩ : ∃ x, wx.heap.size = x := ⟨_, rfl⟩
    rw [hbd] at L8 ⊢
    have KD := Lib.hid hbd
    generalize wx.alloc (.cells #[.bool false] 31) = W8 at *
    clear hbd
    go_wp2_with fail
    go_loopw [12, 13] (fun v0 v1 wr => ∃ k : Nat, k ≤ n ∧ v0 = .int .i64 (cntT TN k : Nat) ∧ v1 = .int .i64 k ∧ Hid (MnL bc bd FN (alN S P O k).1 (alN S P O k).2 (alH S P O k) wx w wr)) (fun _ v1 _ => n - (intOf v1).toNat)
    case atStart => exact ⟨0, by omega, rfl, rfl, L8⟩
    case round =>
      obtain ⟨k, hk, rfl, rfl, R⟩ := hrel
      clear L8
      have hn6 := HN.out
      have hct := cntT_le TN k
      have HCT : Hid (cntT TN (k + 1) = cntT TN k + (if TN k = true then 1 else 0)) := Lib.hid rfl
      obtain ⟨ct, hct2⟩ : ∃ ct, cntT TN k = ct := ⟨_, rfl⟩
      rw [hct2] at hct HCT ⊢
      have hcb : (ct : Int) < 1000 := by omega
      have hcc : (0 : Int) ≤ (ct : Int) := Int.natCast_nonneg _
      have HC2 := Lib.hid hct2
      clear hct2
      by_cases hlt : k < n
      · have d2 : decide ((k : Int) < (n : Int)) = true := by simp; omega
        obtain ⟨pb, po, rfl, hcell⟩ := slc_from HL.out (show 0 < 27 * n by omega)
        obtain ⟨E, hE⟩ : ∃ E : Nat → Int, rowO O k = E := ⟨_, rfl⟩
        have hob : ∀ j, j < 27 → wr.cell? ⟨pb, po + k * 27 + j, none⟩ = some (.int .i64 (E j)) := fun j hj => by
          have h := hcell (k * 27 + j) (by omega)
          rw [← Nat.add_assoc] at h
          rw [← hE]
          exact (R.out.a.below.cell (World.block_lt_of_cell? _ _ h)).trans h
        obtain ⟨SS, hS⟩ : ∃ x, (alN S P O k).1 = x := ⟨_, rfl⟩
        obtain ⟨PP, hP⟩ : ∃ x, (alN S P O k).2 = x := ⟨_, rfl⟩
        obtain ⟨Y1, hY⟩ : ∃ x, alH S P O k = x := ⟨_, rfl⟩
        have HST := Lib.hid (show (alN S P O (k + 1)).1 = foSt SS PP E ∧ (alN S P O (k + 1)).2 = foPt PP E ∧ alH S P O (k + 1) = (Y1 || foFl SS PP E) ∧ TN k = foL PP E ∧ YN k = foY E ∧ VN k = foS PP E by
          obtain ⟨_, _, _, e4, e5, e6⟩ := EN.out
          rw [← e4, ← e5, ← e6, ← hE, ← hS, ← hP, ← hY]; exact ⟨rfl, rfl, rfl, rfl, rfl, rfl⟩)
        have EO : Hid (-9223372036854775808 ≤ E 26 ∧ E 26 ≤ 9223372036854775807) := Lib.hid (by rw [← hE]; exact HO.out _)
        rw [hS, hP, hY] at R
        have HOB := Lib.hid hob
        clear hE hS hP hY hcell hob
        go_upto_region 13 with fail
        have L1 : Hid (MnL bc bd FN SS PP Y1 wx w (wr.alloc (.cells #[.bool false, .int .i64 0, .int .i64 0] 36))) := Lib.hid (R.out.down ((Below.refl _ _).alloc (Nat.le_refl _) _))
        have Z1 : Hid (Res (wr.alloc (.cells #[.bool false, .int .i64 0, .int .i64 0] 36)) wr.heap.size false 0 0) := Lib.hid (Res.new wr false 0 0)
        have O1 := Lib.hid (fun j (hj : j < 27) => (((Below.refl wr.heap.size wr).alloc (Nat.le_refl _) (.cells #[.bool false, .int .i64 0, .int .i64 0] 36)).cell (p := ⟨pb, po + k * 27 + j, none⟩) (World.block_lt_of_cell? _ _ (HOB.out j hj))).trans (HOB.out j hj))
        have hbr : bd < wr.heap.size := R.out.fd.lt
        obtain ⟨rb, hrb⟩ : ∃ x, wr.heap.size = x := ⟨_, rfl⟩
        generalize wr.alloc (.cells #[.bool false, .int .i64 0, .int .i64 0] 36) = W1 at *
        rw [hrb] at Z1 hbr ⊢
        have ON := Lib.hid (fun (x : World) k1 k2 => fuone_any ⟨bd, 0, none⟩ Y1 SS PP E x k1 k2 EO.out)
        obtain ⟨SX, hSX⟩ : ∃ x, foSt SS PP E = x := ⟨_, rfl⟩
        obtain ⟨PX, hPX⟩ : ∃ x, foPt PP E = x := ⟨_, rfl⟩
        obtain ⟨TX, hTX⟩ : ∃ x, foL PP E = x := ⟨_, rfl⟩
        obtain ⟨YX, hYX⟩ : ∃ x, foY E = x := ⟨_, rfl⟩
        obtain ⟨VX, hVX⟩ : ∃ x, foS PP E = x := ⟨_, rfl⟩
        obtain ⟨HX, hHX⟩ : ∃ x, (Y1 || foFl SS PP E) = x := ⟨_, rfl⟩
        simp only [hSX, hPX, hTX, hYX, hVX, hHX] at ON
        rw [hSX, hPX, hTX, hYX, hVX, hHX] at HST
        have o1 := R.out.a.ord
        have o2 := R.out.o
        clear hrb hSX hPX hTX hYX hVX hHX R HOB
        refine wp_region_M (fun w' => Blk w' w.heap.size 23 24 SS ∧ Blk w' (w.heap.size + 1) 26 300 PP ∧ ∀ j, j < 27 → w'.cell? ⟨pb, po + k * 27 + j, none⟩ = some (.int .i64 (E j))) 7 (by kernel_rfl) ?_ (fun hHeld => ?_)
        · exact ⟨L1.out.a.sB, L1.out.a.pB, O1.out⟩
        refine wpAnyM_take 0 (v := ?_) rfl (by kernel_rfl) (fun _ _ _ h => h) (Or.inl ⟨by rfl, ?_⟩) (by assumption) ?_
        rotate_left
        · (intro wx hSw; (try dsimp only at hSw); go_simp; (try with_reducible rfl))
        (try simp only [Act.put, List.setIfInBounds_toArray, List.set_cons_zero, List.set_cons_succ])
        refine wpAnyM_take 1 (v := ?_) rfl (by kernel_rfl) (fun _ _ _ h => h) (Or.inl ⟨by rfl, ?_⟩) (by assumption) ?_
        rotate_left
        · (intro wz hSw; refine Eq.trans (run_load_row 23 (.tmp 3) (by rfl) (w.heap.size) (by rfl) _ _ _ _ (hSw.1) Try.underlying23 rfl (ist.trans (by rw [arrv_size]))) ?_; with_reducible rfl)
        (try simp only [Act.put, List.setIfInBounds_toArray, List.set_cons_zero, List.set_cons_succ])
        refine wpAnyM_take 2 (v := ?_) rfl (by kernel_rfl) (fun _ _ _ h => h) (Or.inl ⟨by rfl, ?_⟩) (by assumption) ?_
        rotate_left
        · (intro wz hSw; refine Eq.trans (run_load_row 26 (.tmp 4) (by rfl) (w.heap.size + 1) (by rfl) _ _ _ _ (hSw.2.1) Try.underlying26 rfl (icov.trans (by rw [arrv_size]))) ?_; with_reducible rfl)
        (try simp only [Act.put, List.setIfInBounds_toArray, List.set_cons_zero, List.set_cons_succ])
        refine wpAnyM_takeW 3 (v := ?_) rfl (by kernel_rfl) (fun _ _ _ h => h) (Or.inl ⟨by rfl, ?_⟩) (.inr (by assumption)) ?_
        rotate_left
        · (intro wx hSw; (try dsimp only at hSw); go_simp; (try with_reducible rfl))
        (try simp only [Act.put, List.setIfInBounds_toArray, List.set_cons_zero, List.set_cons_succ])
        refine wpAnyM_takeW 4 (v := ?_) rfl (by kernel_rfl) (fun _ _ _ h => h) (Or.inl ⟨by rfl, ?_⟩) (.inr (by assumption)) ?_
        rotate_left
        · (intro wx hSw; (try dsimp only at hSw); go_simp; (try with_reducible rfl))
        (try simp only [Act.put, List.setIfInBounds_toArray, List.set_cons_zero, List.set_cons_succ])
        refine wpAnyM_takeW 5 (v := ?_) rfl (by kernel_rfl) (fun _ _ _ h => h) (Or.inl ⟨by rfl, ?_⟩) (.inr (by assumption)) ?_
        rotate_left
        · (intro wx hSw; (try dsimp only at hSw); go_simp; (try with_reducible rfl))
        (try simp only [Act.put, List.setIfInBounds_toArray, List.set_cons_zero, List.set_cons_succ])
        refine wpAnyM_take 6 (v := ?_) rfl (by kernel_rfl) (fun _ _ _ h => h) (Or.inl ⟨by rfl, ?_⟩) (by assumption) ?_
        rotate_left
        · (intro wz hSw; refine Eq.trans (run_load_mid' 41 (.tmp 50) (by rfl) pb (po + k * 27) 27 (by rfl) E hSw.2.2 _ Try.underlying41 rfl iob) ?_; with_reducible rfl)
        (try simp only [Act.put, List.setIfInBounds_toArray, List.set_cons_zero, List.set_cons_succ])
        refine wpAnyM_one 7 rfl (by kernel_rfl) (fun K hK => ?_)
        go_simp
        (refine (ON.out _ L1.out.drew.fd.cell L1.out.drew.fd.free).mono ?_); rintro e w3 ⟨rfl, hu3⟩; have L3 := Lib.hid (L1.out.drew.upd hu3); have S3 := L3.out.a.sB; have P4 := (L3.out.rowS SX).a.pB; have Z5 := ((Res.upd (w := W1.drew) Z1.out hu3 (by simp; omega)).row (k := w.heap.size) (arrv 24 SX) (by omega)).row (k := w.heap.size + 1) (arrv 300 PX) (by omega); obtain ⟨⟨v0, v1, v2⟩, y0, y1, y2⟩ := Z5.c; have Z5 := Lib.hid Z5; (simp only [res3]); clear hu3
        (try dsimp only)
        (try simp only [Act.put, List.setIfInBounds_toArray, List.set_cons_zero, List.set_cons_succ])
        refine hK.out _ _ (.inl (by kernel_rfl)) (fun _ => ?_)
        clear hK K
        (try simp only [Act.put, List.setIfInBounds_toArray, List.set_cons_zero, List.set_cons_succ])
        refine wpAnyM_switch (fun _ => True) 14 (by kernel_rfl) ?_ (fun hHeld => ?_)
        · trivial
        refine wpAnyM_take 8 (v := ?_) rfl (by kernel_rfl) (fun _ _ _ h => h) (Or.inl ⟨by rfl, ?_⟩) (by assumption) ?_
        rotate_left
        · (intro wx hSw; (try dsimp only at hSw); go_simp; (try with_reducible rfl))
        (try simp only [Act.put, List.setIfInBounds_toArray, List.set_cons_zero, List.set_cons_succ])
        refine wpAnyM_take 9 (v := ?_) rfl (by kernel_rfl) (fun _ _ _ h => h) (Or.inl ⟨by rfl, ?_⟩) (by assumption) ?_
        rotate_left
        · (intro wx hSw; (try dsimp only at hSw); go_simp; (try with_reducible rfl))
        (try simp only [Act.put, List.setIfInBounds_toArray, List.set_cons_zero, List.set_cons_succ])
        refine wpAnyM_take 10 (v := ?_) rfl (by kernel_rfl) (fun _ _ _ h => h) (Or.inl ⟨by rfl, ?_⟩) (by assumption) ?_
        rotate_left
        · (intro wx hSw; (try dsimp only at hSw); go_simp; (try with_reducible rfl))
        (try simp only [Act.put, List.setIfInBounds_toArray, List.set_cons_zero, List.set_cons_succ])
        refine wpAnyM_take 11 (v := ?_) rfl (by kernel_rfl) (fun _ _ _ h => h) (Or.inl ⟨by rfl, ?_⟩) (by assumption) ?_
        rotate_left
        · (intro wx hSw; (try dsimp only at hSw); go_simp; (try with_reducible rfl))
        (try simp only [Act.put, List.setIfInBounds_toArray, List.set_cons_zero, List.set_cons_succ])
        refine wpAnyM_oneS 12 rfl (by kernel_rfl) (fun K hK => ?_)
        go_simp; rw [if_pos (arrv_size _ _), run_storeCells_row _ S3]; go_simp
        clear hHeld
        refine hK.out _ _ ?_ (fun hHeld => ?_)
        · trivial
        clear hK K
        (try simp only [Act.put, List.setIfInBounds_toArray, List.set_cons_zero, List.set_cons_succ])
        refine wpAnyM_oneS 13 rfl (by kernel_rfl) (fun K hK => ?_)
        go_simp; rw [if_pos (arrv_size _ _), run_storeCells_row _ P4]; go_simp
        clear hHeld
        refine hK.out _ _ ?_ (fun hHeld => ?_)
        · trivial
        clear hK K
        (try simp only [Act.put, List.setIfInBounds_toArray, List.set_cons_zero, List.set_cons_succ])
        refine wpAnyM_one 14 rfl (by kernel_rfl) (fun K hK => ?_)
        go_simp
        refine hK.out _ _ (.inl (by kernel_rfl)) (fun _ => ?_)
        clear hK K
        (try simp only [Act.put, List.setIfInBounds_toArray, List.set_cons_zero, List.set_cons_succ])
        refine wpAnyM_switch (fun _ => True) 14 (by kernel_rfl) ?_ (fun hHeld => ?_)
        · trivial
        refine wpAnyM_done (by kernel_rfl) ?_ _
        have K6 := Lib.hid ((((L3.out.rowS SX).rowP PX).set (b := rb) (o := 0) hbr (.bool TX)).set (b := rb) (o := 1) hbr (.int .i64 YX) |>.set (b := rb) (o := 2) hbr (.int .i64 VX))
        have Z6 := Lib.hid (Z5.out.set3 TX YX VX)
        clear hHeld S3 P4 L3 Z5 v0 v1 v2 y0 y1 y2 L1 Z1 O1 ON
        generalize ((((w3.setRow w.heap.size (arrv 24 SX)).setRow (w.heap.size + 1) (arrv 300 PX)).setCell ⟨rb, 0, none⟩ (.bool TX)).setCell ⟨rb, 1, none⟩ (.int .i64 YX)).setCell ⟨rb, 2, none⟩ (.int .i64 VX) = w6 at *
        obtain ⟨g, hpr, hg, r0, r1, r2⟩ := K6.out.told HB.out.2.2.2 KD.out k hlt
        subst hpr
        rw [HST.out.2.2.2.1] at r0 HCT
        rw [HST.out.2.2.2.2.1] at r1
        rw [HST.out.2.2.2.2.2] at r2
        have d3 : decide ((n : Int) ≤ (k : Int)) = false := by simp; omega
        have d4 : decide (k < n) = true := by simpa using hlt
        have d5 : decide (n ≤ k) = false := by simp; omega
        have k0 : (0 : Int) ≤ (k : Int) := Int.natCast_nonneg _
        have k1 : (k : Int) < (n : Int) := by omega
        go_upto_region 14 with fail
        refine wp_region_M (fun w' => (w'.cell? ⟨g, k * 3, none⟩ = some (.bool TX) ∧ w'.cell? ⟨g, k * 3 + 1, none⟩ = some (.int .i64 YX) ∧ w'.cell? ⟨g, k * 3 + 2, none⟩ = some (.int .i64 VX)) ∧ Res w' rb TX YX VX) 11 (by kernel_rfl) ?_ (fun hHeld => ?_)
        · exact ⟨⟨r0, r1, r2⟩, Z6.out⟩
        refine wpAnyM_takeX [3, 4, 5, 6, 7, 8, 9, 10, 11] 0 (v := ?_) rfl (by kernel_rfl) (fun _ _ _ h => h) (Or.inl ⟨by rfl, ?_⟩) (by assumption) ?_
        rotate_left
        · (intro wx hSw; (try dsimp only at hSw); go_simp; (try with_reducible rfl))
        (try simp only [Act.put, List.setIfInBounds_toArray, List.set_cons_zero, List.set_cons_succ])
        refine wpAnyM_takeX [2, 3, 4, 5, 6, 7, 8, 9, 10, 11] 1 (v := ?_) rfl (by kernel_rfl) (fun _ _ _ h => h) (Or.inl ⟨by rfl, ?_⟩) (by assumption) ?_
        rotate_left
        · (intro wx hSw; (try dsimp only at hSw); go_simp; (try with_reducible rfl))
        (try simp only [Act.put, List.setIfInBounds_toArray, List.set_cons_zero, List.set_cons_succ])
        refine wpAnyM_takeX [3, 4, 5, 6, 7, 8, 9, 10, 11] 2 (v := ?_) rfl (by kernel_rfl) (fun _ _ _ h => h) (Or.inl ⟨by rfl, ?_⟩) (by assumption) ?_
        rotate_left
        · (intro wx hSw; (try dsimp only at hSw); go_simp; (try with_reducible rfl))
        (try simp only [Act.put, List.setIfInBounds_toArray, List.set_cons_zero, List.set_cons_succ])
        refine wpAnyM_takeX [4, 5, 6, 7, 8, 9, 10, 11] 3 (v := ?_) rfl (by kernel_rfl) (fun _ _ _ h => h) (Or.inl ⟨by rfl, ?_⟩) (by assumption) ?_
        rotate_left
        · (intro wz hSw; go_simp; (try simp only [d3, d5]); (try with_reducible rfl))
        (try simp only [Act.put, List.setIfInBounds_toArray, List.set_cons_zero, List.set_cons_succ])
        refine wpAnyM_take 4 (v := ?_) rfl (by kernel_rfl) (fun _ _ _ h => h) (Or.inl ⟨by rfl, ?_⟩) (by assumption) ?_
        rotate_left
        · (intro wx hSw; (try dsimp only at hSw); go_simp; (try with_reducible rfl))
        (try simp only [Act.put, List.setIfInBounds_toArray, List.set_cons_zero, List.set_cons_succ])
        first | (refine wpAnyM_takeX [7, 8, 10, 11] 5 (v := ?_) rfl (by kernel_rfl) (fun _ _ _ h => h) (Or.inl ⟨by rfl, ?_⟩) (by assumption) ?_; rotate_left; focus ((intro wx hSw; (try dsimp only at hSw); go_simp; (try with_reducible rfl)))) | (refine wpAnyM_takeX [7, 8, 10, 11] 5 rfl (by kernel_rfl) (fun _ _ _ h => h) (Or.inr ⟨by rfl, rfl⟩) (by assumption) ?_)
        (try simp only [Act.put, List.setIfInBounds_toArray, List.set_cons_zero, List.set_cons_succ])
        first | (refine wpAnyM_takeX [7, 8, 10, 11] 6 (v := ?_) rfl (by kernel_rfl) (fun _ _ _ h => h) (Or.inl ⟨by rfl, ?_⟩) (by assumption) ?_; rotate_left; focus ((intro wx hSw; (try dsimp only at hSw); go_simp; (try with_reducible rfl)))) | (refine wpAnyM_takeX [7, 8, 10, 11] 6 rfl (by kernel_rfl) (fun _ _ _ h => h) (Or.inr ⟨by rfl, rfl⟩) (by assumption) ?_)
        (try simp only [Act.put, List.setIfInBounds_toArray, List.set_cons_zero, List.set_cons_succ])
        first | (refine wpAnyM_takeX [8, 10, 11] 7 (v := ?_) rfl (by kernel_rfl) (fun _ _ _ h => h) (Or.inl ⟨by rfl, ?_⟩) (by assumption) ?_; rotate_left; focus ((intro wx hSw; (try dsimp only at hSw); go_simp; (try with_reducible rfl)))) | (refine wpAnyM_takeX [8, 10, 11] 7 rfl (by kernel_rfl) (fun _ _ _ h => h) (Or.inr ⟨by rfl, rfl⟩) (by assumption) ?_)
        (try simp only [Act.put, List.setIfInBounds_toArray, List.set_cons_zero, List.set_cons_succ])
        first | (refine wpAnyM_takeX [10, 11] 8 (v := ?_) rfl (by kernel_rfl) (fun _ _ _ h => h) (Or.inl ⟨by rfl, ?_⟩) (by assumption) ?_; rotate_left; focus ((intro wz hSw; refine Eq.trans (run_load_res (.tmp 63) (by rfl) g (k * 3) (by rfl) TX YX VX hSw.1.1 hSw.1.2.1 hSw.1.2.2) ?_; with_reducible rfl))) | (refine wpAnyM_takeX [10, 11] 8 rfl (by kernel_rfl) (fun _ _ _ h => h) (Or.inr ⟨by rfl, rfl⟩) (by assumption) ?_)
        (try simp only [Act.put, List.setIfInBounds_toArray, List.set_cons_zero, List.set_cons_succ])
        first | (refine wpAnyM_takeX [10, 11] 9 (v := ?_) rfl (by kernel_rfl) (fun _ _ _ h => h) (Or.inl ⟨by rfl, ?_⟩) (by assumption) ?_; rotate_left; focus ((intro wz hSw; refine Eq.trans (run_load_res (.tmp 14) (by rfl) rb 0 (by rfl) TX YX VX hSw.2.c.1.1 hSw.2.c.1.2.1 hSw.2.c.1.2.2) ?_; with_reducible rfl))) | (refine wpAnyM_takeX [10, 11] 9 rfl (by kernel_rfl) (fun _ _ _ h => h) (Or.inr ⟨by rfl, rfl⟩) (by assumption) ?_)
        (try simp only [Act.put, List.setIfInBounds_toArray, List.set_cons_zero, List.set_cons_succ])
        first | (refine wpAnyM_take 10 (v := ?_) rfl (by kernel_rfl) (fun _ _ _ h => h) (Or.inl ⟨by rfl, ?_⟩) (by assumption) ?_; rotate_left; focus ((intro wz hSw; refine Eq.trans (run_op_neqRes (.tmp 64) (.tmp 65) (by rfl) (by rfl) (by rfl)) ?_; with_reducible rfl))) | (refine wpAnyM_take 10 rfl (by kernel_rfl) (fun _ _ _ h => h) (Or.inr ⟨by rfl, rfl⟩) (by assumption) ?_)
        (try simp only [Act.put, List.setIfInBounds_toArray, List.set_cons_zero, List.set_cons_succ])
        refine wpAnyM_one 11 rfl (by kernel_rfl) (fun K hK => ?_)
        go_simp
        refine hK.out _ _ (.inl (by kernel_rfl)) (fun _ => ?_)
        clear hK K
        (try simp only [Act.put, List.setIfInBounds_toArray, List.set_cons_zero, List.set_cons_succ])
        refine wpAnyM_done (by kernel_rfl) ?_ _
        (try clear hHeld)
        obtain ⟨X7, hX7⟩ : ∃ x, w6.drew = x := ⟨_, rfl⟩
        have K7 := Lib.hid (show MnL bc bd FN SX PX HX wx w X7 by rw [← hX7]; exact K6.out.drew)
        have c0 : X7.cell? ⟨rb, 0, none⟩ = some (.bool TX) := by rw [← hX7]; exact Z6.out.c.1.1
        rw [hX7]
        clear hX7 K6 Z6 r0 r1 r2 d3
        cases TX
        all_goals
          go_wp2_with fail
          go_roundw
          case rel =>
            refine ⟨k + 1, by omega, ?_, by go_num, ?_⟩
            · rw [HCT.out]; first | rfl | (simp; done) | (go_num; done)
            · rw [HST.out.1, HST.out.2.1, HST.out.2.2.1]; exact K7
          case measure => simp [intOf]; omega
      · have hkn : k = n := by omega
        subst hkn
        obtain ⟨e0, e1, e2, _, _, _⟩ := EN.out
        rw [e0, e1, e2] at R
        have cn := fun (x : World) (h : SlcR x pr k TN YN VN) => count_any pr k cr TN YN VN x (by omega) h
        rw [HC2.out] at cn
        have CN := Lib.hid cn
        have T0 := R.out.told HB.out.2.2.2 KD.out
        have S8 := Lib.hid (R.out.blk HB.out.2.1.1 HB.out.2.1.2 KD.out)
        have P8 := Lib.hid (R.out.blk HB.out.2.2.1.1 HB.out.2.2.1.2 KD.out)
        have TT := Lib.hid T0
        have d2 : decide ((k : Int) < (k : Int)) = false := by simp
        have w1' : IntKind.i64.wrap ((k : Int) - (ct : Int)) = (k : Int) - (ct : Int) := IntWalk.i64_in _ (by omega)
        clear e0 e1 e2 cn T0
        go_upto_region 19 with (go_at_call 8; (refine (CN.out _ TT.out.slcR).mono ?_); rintro e w4 ⟨rfl, hb4⟩; have R4 := Lib.hid (R.out.down hb4); have S4 := Lib.hid (S8.out.below hb4); have P4 := Lib.hid (P8.out.below hb4); clear hb4)
        refine wp_region_M (fun w' => Blk w' b8 23 24 SN ∧ Blk w' w.heap.size 23 24 SN ∧ Blk w' b9 26 300 PN ∧ Blk w' (w.heap.size + 1) 26 300 PN ∧ w'.cell? ⟨bc, 0, none⟩ = some (.bool FN) ∧ w'.cell? ⟨bd, 0, none⟩ = some (.bool FN)) 39 (by kernel_rfl) ?_ (fun hHeld => ?_)
        · exact ⟨S4.out, R4.out.a.sB, P4.out, R4.out.a.pB, R4.out.a.flg.cell, R4.out.fd.cell⟩
        refine wpAnyM_take 0 (v := ?_) rfl (by kernel_rfl) (fun _ _ _ h => h) (Or.inl ⟨by rfl, ?_⟩) (by assumption) ?_
        rotate_left
        · (intro wz hSw; refine Eq.trans (run_load_row 23 (.tmp 8) (by rfl) (b8) (by rfl) _ _ _ _ (hSw.1) Try.underlying23 rfl (ist.trans (by rw [arrv_size]))) ?_; with_reducible rfl)
        (try simp only [Act.put, List.setIfInBounds_toArray, List.set_cons_zero, List.set_cons_succ])
        refine wpAnyM_take 1 (v := ?_) rfl (by kernel_rfl) (fun _ _ _ h => h) (Or.inl ⟨by rfl, ?_⟩) (by assumption) ?_
        rotate_left
        · (intro wz hSw; refine Eq.trans (run_load_row 23 (.tmp 3) (by rfl) (w.heap.size) (by rfl) _ _ _ _ (hSw.2.1) Try.underlying23 rfl (ist.trans (by rw [arrv_size]))) ?_; with_reducible rfl)
        (try simp only [Act.put, List.setIfInBounds_toArray, List.set_cons_zero, List.set_cons_succ])
        refine wpAnyM_take 2 (v := ?_) rfl (by kernel_rfl) (fun _ _ _ h => h) (Or.inl ⟨by rfl, ?_⟩) (by assumption) ?_
        rotate_left
        · (intro wz hSw; refine Eq.trans (run_op_eqlVec Try.underlying23 (by kernel_rfl) (.tmp 77) (.tmp 78) (by rfl) (by rfl) (by rfl) (eqB_iff.2 fun _ _ => rfl)) ?_; with_reducible rfl)
        (try simp only [Act.put, List.setIfInBounds_toArray, List.set_cons_zero, List.set_cons_succ])
        refine wpAnyM_take 3 (v := ?_) rfl (by kernel_rfl) (fun _ _ _ h => h) (Or.inl ⟨by rfl, ?_⟩) (by assumption) ?_
        rotate_left
        · (intro wx hSw; (try dsimp only at hSw); go_simp; (try with_reducible rfl))
        (try simp only [Act.put, List.setIfInBounds_toArray, List.set_cons_zero, List.set_cons_succ])
        first | (refine wpAnyM_take 4 (v := ?_) rfl (by kernel_rfl) (fun _ _ _ h => h) (Or.inl ⟨by rfl, ?_⟩) (by assumption) ?_; rotate_left; focus ((intro wz hSw; refine Eq.trans (run_load_row 26 (.tmp 9) (by rfl) (b9) (by rfl) _ _ _ _ (hSw.2.2.1) Try.underlying26 rfl (icov.trans (by rw [arrv_size]))) ?_; with_reducible rfl))) | (refine wpAnyM_take 4 rfl (by kernel_rfl) (fun _ _ _ h => h) (Or.inr ⟨by rfl, rfl⟩) (by assumption) ?_)
        (try simp only [Act.put, List.setIfInBounds_toArray, List.set_cons_zero, List.set_cons_succ])
        first | (refine wpAnyM_take 5 (v := ?_) rfl (by kernel_rfl) (fun _ _ _ h => h) (Or.inl ⟨by rfl, ?_⟩) (by assumption) ?_; rotate_left; focus ((intro wz hSw; refine Eq.trans (run_load_row 26 (.tmp 4) (by rfl) (w.heap.size + 1) (by rfl) _ _ _ _ (hSw.2.2.2.1) Try.underlying26 rfl (icov.trans (by rw [arrv_size]))) ?_; with_reducible rfl))) | (refine wpAnyM_take 5 rfl (by kernel_rfl) (fun _ _ _ h => h) (Or.inr ⟨by rfl, rfl⟩) (by assumption) ?_)
        (try simp only [Act.put, List.setIfInBounds_toArray, List.set_cons_zero, List.set_cons_succ])
        first | (refine wpAnyM_take 6 (v := ?_) rfl (by kernel_rfl) (fun _ _ _ h => h) (Or.inl ⟨by rfl, ?_⟩) (by assumption) ?_; rotate_left; focus ((intro wz hSw; refine Eq.trans (run_op_eqlCov (.tmp 81) (.tmp 82) (by rfl) (by rfl) (by rfl) (covB_self PN)) ?_; with_reducible rfl))) | (refine wpAnyM_take 6 rfl (by kernel_rfl) (fun _ _ _ h => h) (Or.inr ⟨by rfl, rfl⟩) (by assumption) ?_)
        (try simp only [Act.put, List.setIfInBounds_toArray, List.set_cons_zero, List.set_cons_succ])
        refine wpAnyM_take 7 (v := ?_) rfl (by kernel_rfl) (fun _ _ _ h => h) (Or.inl ⟨by rfl, ?_⟩) (by assumption) ?_
        rotate_left
        · (intro wx hSw; (try dsimp only at hSw); go_simp; (try with_reducible rfl))
        (try simp only [Act.put, List.setIfInBounds_toArray, List.set_cons_zero, List.set_cons_succ])
        refine wpAnyM_take 8 (v := ?_) rfl (by kernel_rfl) (fun _ _ _ h => h) (Or.inl ⟨by rfl, ?_⟩) (by assumption) ?_
        rotate_left
        · (intro wx hSw; (try dsimp only at hSw); go_simp; (try with_reducible rfl))
        (try simp only [Act.put, List.setIfInBounds_toArray, List.set_cons_zero, List.set_cons_succ])
        first | (refine wpAnyM_take 9 (v := ?_) rfl (by kernel_rfl) (fun _ _ _ h => h) (Or.inl ⟨by rfl, ?_⟩) (by assumption) ?_; rotate_left; focus ((intro wx hSw; (try dsimp only at hSw); go_simp; (try with_reducible rfl)))) | (refine wpAnyM_take 9 rfl (by kernel_rfl) (fun _ _ _ h => h) (Or.inr ⟨by rfl, rfl⟩) (by assumption) ?_)
        (try simp only [Act.put, List.setIfInBounds_toArray, List.set_cons_zero, List.set_cons_succ])
        first | (refine wpAnyM_take 10 (v := ?_) rfl (by kernel_rfl) (fun _ _ _ h => h) (Or.inl ⟨by rfl, ?_⟩) (by assumption) ?_; rotate_left; focus ((intro wx hSw; (try dsimp only at hSw); go_simp; (try with_reducible rfl)))) | (refine wpAnyM_take 10 rfl (by kernel_rfl) (fun _ _ _ h => h) (Or.inr ⟨by rfl, rfl⟩) (by assumption) ?_)
        (try simp only [Act.put, List.setIfInBounds_toArray, List.set_cons_zero, List.set_cons_succ])
        first | (refine wpAnyM_take 11 (v := ?_) rfl (by kernel_rfl) (fun _ _ _ h => h) (Or.inl ⟨by rfl, ?_⟩) (by assumption) ?_; rotate_left; focus ((intro wx hSw; (try dsimp only at hSw); go_simp; (try with_reducible rfl)))) | (refine wpAnyM_take 11 rfl (by kernel_rfl) (fun _ _ _ h => h) (Or.inr ⟨by rfl, rfl⟩) (by assumption) ?_)
        (try simp only [Act.put, List.setIfInBounds_toArray, List.set_cons_zero, List.set_cons_succ])
        first | (refine wpAnyM_take 12 (v := ?_) rfl (by kernel_rfl) (fun _ _ _ h => h) (Or.inl ⟨by rfl, ?_⟩) (by assumption) ?_; rotate_left; focus ((intro wx hSw; (try dsimp only at hSw); go_simp; (try with_reducible rfl)))) | (refine wpAnyM_take 12 rfl (by kernel_rfl) (fun _ _ _ h => h) (Or.inr ⟨by rfl, rfl⟩) (by assumption) ?_)
        (try simp only [Act.put, List.setIfInBounds_toArray, List.set_cons_zero, List.set_cons_succ])
        first | (refine wpAnyM_take 13 (v := ?_) rfl (by kernel_rfl) (fun _ _ _ h => h) (Or.inl ⟨by rfl, ?_⟩) (by assumption) ?_; rotate_left; focus ((intro wx hSw; (try dsimp only at hSw); go_simp; (try with_reducible rfl)))) | (refine wpAnyM_take 13 rfl (by kernel_rfl) (fun _ _ _ h => h) (Or.inr ⟨by rfl, rfl⟩) (by assumption) ?_)
        (try simp only [Act.put, List.setIfInBounds_toArray, List.set_cons_zero, List.set_cons_succ])
        refine wpAnyM_take 14 (v := ?_) rfl (by kernel_rfl) (fun _ _ _ h => h) (Or.inl ⟨by rfl, ?_⟩) (by assumption) ?_
        rotate_left
        · (intro wx hSw; (try dsimp only at hSw); go_simp; (try with_reducible rfl))
        (try simp only [Act.put, List.setIfInBounds_toArray, List.set_cons_zero, List.set_cons_succ])
        refine wpAnyM_take 15 (v := ?_) rfl (by kernel_rfl) (fun _ _ _ h => h) (Or.inl ⟨by rfl, ?_⟩) (by assumption) ?_
        rotate_left
        · (intro wx hSw; (try dsimp only at hSw); go_simp; (try with_reducible rfl))
        (try simp only [Act.put, List.setIfInBounds_toArray, List.set_cons_zero, List.set_cons_succ])
        first | (refine wpAnyM_take 16 (v := ?_) rfl (by kernel_rfl) (fun _ _ _ h => h) (Or.inl ⟨by rfl, ?_⟩) (by assumption) ?_; rotate_left; focus ((intro wx hSw; (try dsimp only at hSw); go_simp; (try with_reducible rfl)))) | (refine wpAnyM_take 16 rfl (by kernel_rfl) (fun _ _ _ h => h) (Or.inr ⟨by rfl, rfl⟩) (by assumption) ?_)
        (try simp only [Act.put, List.setIfInBounds_toArray, List.set_cons_zero, List.set_cons_succ])
        first | (refine wpAnyM_take 17 (v := ?_) rfl (by kernel_rfl) (fun _ _ _ h => h) (Or.inl ⟨by rfl, ?_⟩) (by assumption) ?_; rotate_left; focus ((intro wx hSw; (try dsimp only at hSw); go_simp; (try with_reducible rfl)))) | (refine wpAnyM_take 17 rfl (by kernel_rfl) (fun _ _ _ h => h) (Or.inr ⟨by rfl, rfl⟩) (by assumption) ?_)
        (try simp only [Act.put, List.setIfInBounds_toArray, List.set_cons_zero, List.set_cons_succ])
        first | (refine wpAnyM_take 18 (v := ?_) rfl (by kernel_rfl) (fun _ _ _ h => h) (Or.inl ⟨by rfl, ?_⟩) (by assumption) ?_; rotate_left; focus ((intro wx hSw; (try dsimp only at hSw); go_simp; (try with_reducible rfl)))) | (refine wpAnyM_take 18 rfl (by kernel_rfl) (fun _ _ _ h => h) (Or.inr ⟨by rfl, rfl⟩) (by assumption) ?_)
        (try simp only [Act.put, List.setIfInBounds_toArray, List.set_cons_zero, List.set_cons_succ])
        refine wpAnyM_take 19 (v := ?_) rfl (by kernel_rfl) (fun _ _ _ h => h) (Or.inl ⟨by rfl, ?_⟩) (by assumption) ?_
        rotate_left
        · (intro wx hSw; (try dsimp only at hSw); go_simp; (try with_reducible rfl))
        (try simp only [Act.put, List.setIfInBounds_toArray, List.set_cons_zero, List.set_cons_succ])
        refine wpAnyM_take 20 (v := ?_) rfl (by kernel_rfl) (fun _ _ _ h => h) (Or.inl ⟨by rfl, ?_⟩) (by assumption) ?_
        rotate_left
        · (intro wx hSw; (try dsimp only at hSw); go_simp; (try with_reducible rfl))
        (try simp only [Act.put, List.setIfInBounds_toArray, List.set_cons_zero, List.set_cons_succ])
        first | (refine wpAnyM_take 21 (v := ?_) rfl (by kernel_rfl) (fun _ _ _ h => h) (Or.inl ⟨by rfl, ?_⟩) (by assumption) ?_; rotate_left; focus ((intro wx hSw; (try dsimp only at hSw); go_simp; (try with_reducible rfl)))) | (refine wpAnyM_take 21 rfl (by kernel_rfl) (fun _ _ _ h => h) (Or.inr ⟨by rfl, rfl⟩) (by assumption) ?_)
        (try simp only [Act.put, List.setIfInBounds_toArray, List.set_cons_zero, List.set_cons_succ])
        first | (refine wpAnyM_take 22 (v := ?_) rfl (by kernel_rfl) (fun _ _ _ h => h) (Or.inl ⟨by rfl, ?_⟩) (by assumption) ?_; rotate_left; focus ((intro wx hSw; (try dsimp only at hSw); go_simp; (try with_reducible rfl)))) | (refine wpAnyM_take 22 rfl (by kernel_rfl) (fun _ _ _ h => h) (Or.inr ⟨by rfl, rfl⟩) (by assumption) ?_)
        (try simp only [Act.put, List.setIfInBounds_toArray, List.set_cons_zero, List.set_cons_succ])
        first | (refine wpAnyM_take 23 (v := ?_) rfl (by kernel_rfl) (fun _ _ _ h => h) (Or.inl ⟨by rfl, ?_⟩) (by assumption) ?_; rotate_left; focus ((intro wx hSw; (try dsimp only at hSw); go_simp; (try with_reducible rfl)))) | (refine wpAnyM_take 23 rfl (by kernel_rfl) (fun _ _ _ h => h) (Or.inr ⟨by rfl, rfl⟩) (by assumption) ?_)
        (try simp only [Act.put, List.setIfInBounds_toArray, List.set_cons_zero, List.set_cons_succ])
        first | (refine wpAnyM_take 24 (v := ?_) rfl (by kernel_rfl) (fun _ _ _ h => h) (Or.inl ⟨by rfl, ?_⟩) (by assumption) ?_; rotate_left; focus ((intro wx hSw; (try dsimp only at hSw); go_simp; (try with_reducible rfl)))) | (refine wpAnyM_take 24 rfl (by kernel_rfl) (fun _ _ _ h => h) (Or.inr ⟨by rfl, rfl⟩) (by assumption) ?_)
        (try simp only [Act.put, List.setIfInBounds_toArray, List.set_cons_zero, List.set_cons_succ])
        first | (refine wpAnyM_take 25 (v := ?_) rfl (by kernel_rfl) (fun _ _ _ h => h) (Or.inl ⟨by rfl, ?_⟩) (by assumption) ?_; rotate_left; focus ((intro wz hSw; go_simp; (try rw [w1']); (try with_reducible rfl)))) | (refine wpAnyM_take 25 rfl (by kernel_rfl) (fun _ _ _ h => h) (Or.inr ⟨by rfl, rfl⟩) (by assumption) ?_)
        (try simp only [Act.put, List.setIfInBounds_toArray, List.set_cons_zero, List.set_cons_succ])
        first | (refine wpAnyM_take 26 (v := ?_) rfl (by kernel_rfl) (fun _ _ _ h => h) (Or.inl ⟨by rfl, ?_⟩) (by assumption) ?_; rotate_left; focus ((intro wx hSw; (try dsimp only at hSw); go_simp; (try with_reducible rfl)))) | (refine wpAnyM_take 26 rfl (by kernel_rfl) (fun _ _ _ h => h) (Or.inr ⟨by rfl, rfl⟩) (by assumption) ?_)
        (try simp only [Act.put, List.setIfInBounds_toArray, List.set_cons_zero, List.set_cons_succ])
        refine wpAnyM_take 27 (v := ?_) rfl (by kernel_rfl) (fun _ _ _ h => h) (Or.inl ⟨by rfl, ?_⟩) (by assumption) ?_
        rotate_left
        · (intro wx hSw; (try dsimp only at hSw); go_simp; (try with_reducible rfl))
        (try simp only [Act.put, List.setIfInBounds_toArray, List.set_cons_zero, List.set_cons_succ])
        refine wpAnyM_take 28 (v := ?_) rfl (by kernel_rfl) (fun _ _ _ h => h) (Or.inl ⟨by rfl, ?_⟩) (by assumption) ?_
        rotate_left
        · (intro wx hSw; (try dsimp only at hSw); go_simp; (try with_reducible rfl))
        (try simp only [Act.put, List.setIfInBounds_toArray, List.set_cons_zero, List.set_cons_succ])
        first | (refine wpAnyM_take 29 (v := ?_) rfl (by kernel_rfl) (fun _ _ _ h => h) (Or.inl ⟨by rfl, ?_⟩) (by assumption) ?_; rotate_left; focus ((intro wx hSw; (try dsimp only at hSw); go_simp; (try with_reducible rfl)))) | (refine wpAnyM_take 29 rfl (by kernel_rfl) (fun _ _ _ h => h) (Or.inr ⟨by rfl, rfl⟩) (by assumption) ?_)
        (try simp only [Act.put, List.setIfInBounds_toArray, List.set_cons_zero, List.set_cons_succ])
        first | (refine wpAnyM_take 30 (v := ?_) rfl (by kernel_rfl) (fun _ _ _ h => h) (Or.inl ⟨by rfl, ?_⟩) (by assumption) ?_; rotate_left; focus ((intro wx hSw; (try dsimp only at hSw); go_simp; (try with_reducible rfl)))) | (refine wpAnyM_take 30 rfl (by kernel_rfl) (fun _ _ _ h => h) (Or.inr ⟨by rfl, rfl⟩) (by assumption) ?_)
        (try simp only [Act.put, List.setIfInBounds_toArray, List.set_cons_zero, List.set_cons_succ])
        first | (refine wpAnyM_take 31 (v := ?_) rfl (by kernel_rfl) (fun _ _ _ h => h) (Or.inl ⟨by rfl, ?_⟩) (by assumption) ?_; rotate_left; focus ((intro wx hSw; (try dsimp only at hSw); go_simp; (try with_reducible rfl)))) | (refine wpAnyM_take 31 rfl (by kernel_rfl) (fun _ _ _ h => h) (Or.inr ⟨by rfl, rfl⟩) (by assumption) ?_)
        (try simp only [Act.put, List.setIfInBounds_toArray, List.set_cons_zero, List.set_cons_succ])
        first | (refine wpAnyM_take 32 (v := ?_) rfl (by kernel_rfl) (fun _ _ _ h => h) (Or.inl ⟨by rfl, ?_⟩) (by assumption) ?_; rotate_left; focus ((intro wz hSw; obtain ⟨s1, s2, s3, s4, s5, s6⟩ := hSw; clear s1 s2 s3 s4; go_simp; (try with_reducible rfl)))) | (refine wpAnyM_take 32 rfl (by kernel_rfl) (fun _ _ _ h => h) (Or.inr ⟨by rfl, rfl⟩) (by assumption) ?_)
        (try simp only [Act.put, List.setIfInBounds_toArray, List.set_cons_zero, List.set_cons_succ])
        first | (refine wpAnyM_take 33 (v := ?_) rfl (by kernel_rfl) (fun _ _ _ h => h) (Or.inl ⟨by rfl, ?_⟩) (by assumption) ?_; rotate_left; focus ((intro wx hSw; (try dsimp only at hSw); go_simp; (try with_reducible rfl)))) | (refine wpAnyM_take 33 rfl (by kernel_rfl) (fun _ _ _ h => h) (Or.inr ⟨by rfl, rfl⟩) (by assumption) ?_)
        (try simp only [Act.put, List.setIfInBounds_toArray, List.set_cons_zero, List.set_cons_succ])
        first | (refine wpAnyM_take 34 (v := ?_) rfl (by kernel_rfl) (fun _ _ _ h => h) (Or.inl ⟨by rfl, ?_⟩) (by assumption) ?_; rotate_left; focus ((intro wx hSw; (try dsimp only at hSw); go_simp; (try with_reducible rfl)))) | (refine wpAnyM_take 34 rfl (by kernel_rfl) (fun _ _ _ h => h) (Or.inr ⟨by rfl, rfl⟩) (by assumption) ?_)
        (try simp only [Act.put, List.setIfInBounds_toArray, List.set_cons_zero, List.set_cons_succ])
        first | (refine wpAnyM_take 35 (v := ?_) rfl (by kernel_rfl) (fun _ _ _ h => h) (Or.inl ⟨by rfl, ?_⟩) (by assumption) ?_; rotate_left; focus ((intro wx hSw; (try dsimp only at hSw); go_simp; (try with_reducible rfl)))) | (refine wpAnyM_take 35 rfl (by kernel_rfl) (fun _ _ _ h => h) (Or.inr ⟨by rfl, rfl⟩) (by assumption) ?_)
        (try simp only [Act.put, List.setIfInBounds_toArray, List.set_cons_zero, List.set_cons_succ])
        first | (refine wpAnyM_take 36 (v := ?_) rfl (by kernel_rfl) (fun _ _ _ h => h) (Or.inl ⟨by rfl, ?_⟩) (by assumption) ?_; rotate_left; focus ((intro wz hSw; obtain ⟨s1, s2, s3, s4, s5, s6⟩ := hSw; clear s1 s2 s3 s4; go_simp; (try with_reducible rfl)))) | (refine wpAnyM_take 36 rfl (by kernel_rfl) (fun _ _ _ h => h) (Or.inr ⟨by rfl, rfl⟩) (by assumption) ?_)
        (try simp only [Act.put, List.setIfInBounds_toArray, List.set_cons_zero, List.set_cons_succ])
        first | (refine wpAnyM_take 37 (v := ?_) rfl (by kernel_rfl) (fun _ _ _ h => h) (Or.inl ⟨by rfl, ?_⟩) (by assumption) ?_; rotate_left; focus ((intro wx hSw; (try dsimp only at hSw); go_simp; (try with_reducible rfl)))) | (refine wpAnyM_take 37 rfl (by kernel_rfl) (fun _ _ _ h => h) (Or.inr ⟨by rfl, rfl⟩) (by assumption) ?_)
        (try simp only [Act.put, List.setIfInBounds_toArray, List.set_cons_zero, List.set_cons_succ])
        refine wpAnyM_take 38 (v := ?_) rfl (by kernel_rfl) (fun _ _ _ h => h) (Or.inl ⟨by rfl, ?_⟩) (by assumption) ?_
        rotate_left
        · (intro wx hSw; (try dsimp only at hSw); go_simp; (try with_reducible rfl))
        (try simp only [Act.put, List.setIfInBounds_toArray, List.set_cons_zero, List.set_cons_succ])
        refine wpAnyM_one 39 rfl (by kernel_rfl) (fun K hK => ?_)
        go_simp
        refine hK.out _ _ (.inl (by kernel_rfl)) (fun _ => ?_)
        clear hK K
        (try simp only [Act.put, List.setIfInBounds_toArray, List.set_cons_zero, List.set_cons_succ])
        refine wpAnyM_done (by kernel_rfl) ?_ _
        go_wp2_with fail
        go_ret
        exact ⟨rfl, R4.out.a.below.drew⟩
theorem many_all_walk (S P : Nat → Int) (q : Option Addr) (n cp : Nat) (O : Nat → Int) (w : World) (hL : Slc w q (27 * n) O) (hO : ∀ i, -9223372036854775808 ≤ O i ∧ O i ≤ 9223372036854775807) (hz : ∀ i, 27 * n ≤ i → O i = 0) :
    Calls Try.prog 3 #[.agg (arrv 24 S), .agg (arrv 300 P), .slice q n cp] w fun e w' => e = .returned (.bool true) ∧ Below w.heap.size w w' := by
  by_cases hn : n ≤ 6
  · exact many_walk S P q n cp O w hn hL hO hz
  · exact many_long S P q n cp w (by omega)
end Go.Proofs.Ytpbgglkopfjagaa
