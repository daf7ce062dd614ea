/- Contract of fx.Dot. -/
import Derived.Test.YtglpbcionohipaaFx4
import Derived.Test.YtglpbcionohipaaReg
namespace Go.Proofs.Ytglpbcionohipaa
open Go.RowKit
set_option maxRecDepth 100000
theorem ne_of_cells {w : World} {c a : Addr} {h : Bool} {n : Int} (hc : w.cell? c = some (.bool h)) (ha : w.cell? a = some (.int .i64 n)) : c ≠ a := by
  intro e; rw [e, ha] at hc; cases hc
/-- What holds at the head of a round of Dot: the sum so far stands in the call's own cells. -/
structure DotR (c : Addr) (h : Bool) (A B : Nat → Int) (w : World) (k : Nat) (wr : World) : Prop where
  upd : Upd c (h || dotB A B k) w wr
  c0 : wr.cell? ⟨w.heap.size, 0, none⟩ = some (.int .i64 (hi64 (dotS A B k)))
  c1 : wr.cell? ⟨w.heap.size, 1, none⟩ = some (.int .u64 (lo64 (dotS A B k)))
  f0 : wr.frozen? ⟨w.heap.size, 0, none⟩ = false
  f1 : wr.frozen? ⟨w.heap.size, 1, none⟩ = false
  sz : w.heap.size < wr.heap.size
theorem keep2 {c : Addr} {h : Bool} {w w' : World} (u : Upd c h w w') {a1 a2 : Addr} {v1 v2 : Value} (h1 : w.cell? a1 = some v1) (h2 : w.cell? a2 = some v2)
    (n1 : c ≠ a1) (n2 : c ≠ a2) : w'.cell? a1 = some v1 ∧ w'.cell? a2 = some v2 :=
  ⟨(u.cell (World.block_lt_of_cell? w _ h1) n1).trans h1, (u.cell (World.block_lt_of_cell? w _ h2) n2).trans h2⟩
theorem keep4 {c : Addr} {h : Bool} {w w' : World} (u : Upd c h w w') {a1 a2 a3 a4 : Addr} {v1 v2 v3 v4 : Value} (h1 : w.cell? a1 = some v1) (h2 : w.cell? a2 = some v2) (h3 : w.cell? a3 = some v3) (h4 : w.cell? a4 = some v4)
    (n1 : c ≠ a1) (n2 : c ≠ a2) (n3 : c ≠ a3) (n4 : c ≠ a4) : w'.cell? a1 = some v1 ∧ w'.cell? a2 = some v2 ∧ w'.cell? a3 = some v3 ∧ w'.cell? a4 = some v4 :=
  ⟨(u.cell (World.block_lt_of_cell? w _ h1) n1).trans h1, (u.cell (World.block_lt_of_cell? w _ h2) n2).trans h2, (u.cell (World.block_lt_of_cell? w _ h3) n3).trans h3, (u.cell (World.block_lt_of_cell? w _ h4) n4).trans h4⟩
set_option maxHeartbeats 1000000 in
theorem dot_in (c : Addr) (h : Bool) (s : Int) (A B : Nat → Int) (pa oa ca pb ob cb n : Nat) (w : World) (hc : w.cell? c = some (.bool h)) (hf : w.frozen? c = false)
    (s0 : 0 ≤ s) (s1 : s ≤ 120) (hn : n ≤ 100)
    (hA : ∀ i, i < n → w.cell? ⟨pa, oa + i, none⟩ = some (.int .i64 (A i))) (hB : ∀ i, i < n → w.cell? ⟨pb, ob + i, none⟩ = some (.int .i64 (B i))) :
    Calls Try.prog 37 #[.pointer (some c), .int .i64 s, .slice (some ⟨pa, oa, none⟩) n ca, .slice (some ⟨pb, ob, none⟩) n cb] w fun e w' =>
      e = .returned (.int .i64 (satV (rsh (dotS A B n) s.toNat))) ∧ Upd c (h || dotB A B n || satH (rsh (dotS A B n) s.toNat)) w w' := by
  have hcb := World.block_lt_of_cell? w c hc
  have n1 : ¬ s < 0 := by omega
  have n2 : ¬ 120 < s := by omega
  have HA := Lib.hid hA
  have HB := Lib.hid hB
  have HC := Lib.hid hc
  have HF := Lib.hid hf
  clear hA hB hc hf
  go_enter Try.func37, Try.ntmps37
  go_wp2_with fail
  go_loopw [26] (fun i wr => ∃ k : Nat, k ≤ n ∧ i = .int .i64 k ∧ Hid (DotR c h A B w k wr)) (fun i _ => n - (intOf i).toNat)
  case atStart =>
    refine ⟨0, Nat.zero_le _, rfl, ⟨?_, by simp [dotS, hi64], by simp [dotS, lo64], by simp, by simp, by simp⟩⟩
    rw [show (h || dotB A B 0) = h from by simp [dotB]]
    exact Upd.then (Upd.refl HC.out) (by (repeat (first | with_reducible exact Below.refl _ _ | with_reducible apply Below.drew | (with_reducible refine below_drewN ?_ _) | (with_reducible refine Below.alloc ?_ (by (try simp) <;> omega) _) | (with_reducible refine Below.setCell ?_ (by (try simp) <;> omega) _))))
  case round =>
    obtain ⟨k, hk, rfl, R⟩ := hrel
    by_cases hlt : k < n
    · have a0 := HA.out k hlt
      have b0 := HB.out k hlt
      have hsb := dotS_bd A B k
      have hpb := prod_bd (A k) (B k)
      have u := R.out.upd
      have ra : wr.cell? ⟨pa, oa + k, none⟩ = some (.int .i64 (A k)) := (u.cell (World.block_lt_of_cell? w _ a0) (ne_of_cells HC.out a0)).trans a0
      have rb : wr.cell? ⟨pb, ob + k, none⟩ = some (.int .i64 (B k)) := (u.cell (World.block_lt_of_cell? w _ b0) (ne_of_cells HC.out b0)).trans b0
      have rc : wr.cell? c = some (.bool (h || dotB A B k)) := u.cellc HC.out
      have rf : wr.frozen? c = false := (u.frozen hcb).trans HF.out
      have s0 := R.out.c0
      have s1 := R.out.c1
      have t0 := R.out.f0
      have t1 := R.out.f1
      have na := ne_of_cells rc ra
      have nb := ne_of_cells rc rb
      have n0 := ne_of_cells rc s0
      have sA := satV_bd (A k)
      have sB := satV_bd (B k)
      have g1 : (wr.drew.setCell c (.bool (h || dotB A B k || satH (A k)))).cell? c = some (.bool (h || dotB A B k || satH (A k))) := World.cell?_setCell_same _ _ _ rc
      have U2 : Upd c (h || dotB A B k || satH (A k) || satH (B k)) wr ((wr.drew.setCell c (.bool (h || dotB A B k || satH (A k)))).setCell c (.bool (h || dotB A B k || satH (A k) || satH (B k)))) :=
        Upd.trans (Upd.after (Below.drew (Below.refl _ _)) (Upd.set c _ wr.drew)) (Upd.set c _ _)
      have RSZ := R.out.sz
      have Z2 := U2.size
      have H2 := Lib.hid U2
      have G1 := Lib.hid g1
      have HU := Lib.hid u
      have HSB := Lib.hid hsb
      have HPB := Lib.hid hpb
      have SA := Lib.hid sA
      have SB := Lib.hid sB
      clear U2 g1 u hsb hpb sA sB Z2
      go_wp2_with fail
      have hcS : ∀ o, c ≠ ⟨w.heap.size, o, none⟩ := fun o e => by rw [e] at hcb; simp at hcb
      have z0 : wr.heap.size ≠ pa ∧ wr.heap.size ≠ pb := ⟨World.new_ne wr _ ra, World.new_ne wr _ rb⟩
      refine wp_region_M (fun w' => w'.cell? ⟨pa, oa + k, none⟩ = some (.int .i64 (A k)) ∧ w'.cell? ⟨pb, ob + k, none⟩ = some (.int .i64 (B k)) ∧ w'.cell? ⟨w.heap.size, 0, none⟩ = some (.int .i64 (hi64 (dotS A B k))) ∧ w'.cell? ⟨w.heap.size, 1, none⟩ = some (.int .u64 (lo64 (dotS A B k)))) 19 (by kernel_rfl) ?_ (fun hHeld => ?_)
      · exact ⟨ra, rb, s0, s1⟩
      refine wpAnyM_take 0 (v := ?_) rfl (by kernel_rfl) (fun _ _ _ h => h) (Or.inl ⟨by rfl, ?_⟩) (by assumption) ?_
      rotate_left
      · (intro wx hSw; (try dsimp only at hSw); go_simp; (try with_reducible rfl))
      (try simp only [Act.put, List.setIfInBounds_toArray, List.set_cons_zero, List.set_cons_succ])
      refine wpAnyM_take 1 (v := ?_) rfl (by kernel_rfl) (fun _ _ _ h => h) (Or.inl ⟨by rfl, ?_⟩) (by assumption) ?_
      rotate_left
      · (intro wx hSw; (try dsimp only at hSw); go_simp; (try with_reducible rfl))
      (try simp only [Act.put, List.setIfInBounds_toArray, List.set_cons_zero, List.set_cons_succ])
      refine wpAnyM_take 2 (v := ?_) rfl (by kernel_rfl) (fun _ _ _ h => h) (Or.inl ⟨by rfl, ?_⟩) (by assumption) ?_
      rotate_left
      · (intro wx hSw; (try dsimp only at hSw); go_simp; (try with_reducible rfl))
      (try simp only [Act.put, List.setIfInBounds_toArray, List.set_cons_zero, List.set_cons_succ])
      refine wpAnyM_take 3 (v := ?_) rfl (by kernel_rfl) (fun _ _ _ h => h) (Or.inl ⟨by rfl, ?_⟩) (by assumption) ?_
      rotate_left
      · (intro wx hSw; (try dsimp only at hSw); go_simp; (try with_reducible rfl))
      (try simp only [Act.put, List.setIfInBounds_toArray, List.set_cons_zero, List.set_cons_succ])
      refine wpAnyM_take 4 (v := ?_) rfl (by kernel_rfl) (fun _ _ _ h => h) (Or.inl ⟨by rfl, ?_⟩) (by assumption) ?_
      rotate_left
      · (intro wx hSw; (try dsimp only at hSw); go_simp; (try with_reducible rfl))
      (try simp only [Act.put, List.setIfInBounds_toArray, List.set_cons_zero, List.set_cons_succ])
      refine wpAnyM_take 5 (v := ?_) rfl (by kernel_rfl) (fun _ _ _ h => h) (Or.inl ⟨by rfl, ?_⟩) (by assumption) ?_
      rotate_left
      · (intro wx hSw; (try dsimp only at hSw); go_simp; (try with_reducible rfl))
      (try simp only [Act.put, List.setIfInBounds_toArray, List.set_cons_zero, List.set_cons_succ])
      refine wpAnyM_take 7 (v := ?_) rfl (by kernel_rfl) (fun _ _ _ h => h) (Or.inl ⟨by rfl, ?_⟩) (by assumption) ?_
      rotate_left
      · (intro wx hSw; (try dsimp only at hSw); go_simp; (try with_reducible rfl))
      (try simp only [Act.put, List.setIfInBounds_toArray, List.set_cons_zero, List.set_cons_succ])
      refine wpAnyM_take 8 (v := ?_) rfl (by kernel_rfl) (fun _ _ _ h => h) (Or.inl ⟨by rfl, ?_⟩) (by assumption) ?_
      rotate_left
      · (intro wx hSw; (try dsimp only at hSw); go_simp; (try with_reducible rfl))
      (try simp only [Act.put, List.setIfInBounds_toArray, List.set_cons_zero, List.set_cons_succ])
      refine wpAnyM_take 9 (v := ?_) rfl (by kernel_rfl) (fun _ _ _ h => h) (Or.inl ⟨by rfl, ?_⟩) (by assumption) ?_
      rotate_left
      · (intro wx hSw; (try dsimp only at hSw); go_simp; (try with_reducible rfl))
      (try simp only [Act.put, List.setIfInBounds_toArray, List.set_cons_zero, List.set_cons_succ])
      refine wpAnyM_take 10 (v := ?_) rfl (by kernel_rfl) (fun _ _ _ h => h) (Or.inl ⟨by rfl, ?_⟩) (by assumption) ?_
      rotate_left
      · (intro wx hSw; (try dsimp only at hSw); go_simp; (try with_reducible rfl))
      (try simp only [Act.put, List.setIfInBounds_toArray, List.set_cons_zero, List.set_cons_succ])
      refine wpAnyM_take 11 (v := ?_) rfl (by kernel_rfl) (fun _ _ _ h => h) (Or.inl ⟨by rfl, ?_⟩) (by assumption) ?_
      rotate_left
      · (intro wx hSw; (try dsimp only at hSw); go_simp; (try with_reducible rfl))
      (try simp only [Act.put, List.setIfInBounds_toArray, List.set_cons_zero, List.set_cons_succ])
      refine wpAnyM_oneS 6 rfl (by kernel_rfl) (fun K hK => ?_)
      go_simp
      (refine (sat_any c (h || dotB A B k) (A k) wr.drew rc rf).mono ?_); rintro e w' ⟨rfl, rfl⟩
      (try dsimp only)
      (try simp only [Act.put, List.setIfInBounds_toArray, List.set_cons_zero, List.set_cons_succ])
      clear hHeld
      refine hK.out _ _ ?_ (fun hHeld => ?_)
      · simp [go_sem, *]
      clear hK K
      (try simp only [Act.put, List.setIfInBounds_toArray, List.set_cons_zero, List.set_cons_succ])
      refine wpAnyM_oneS 12 rfl (by kernel_rfl) (fun K hK => ?_)
      go_simp
      (refine (sat_any c (h || dotB A B k || satH (A k)) (B k) _ G1.out (by simp [rf])).mono ?_); rintro e w' ⟨rfl, rfl⟩
      (try dsimp only)
      (try simp only [Act.put, List.setIfInBounds_toArray, List.set_cons_zero, List.set_cons_succ])
      clear hHeld
      refine hK.out _ _ ?_ (fun hHeld => ?_)
      · simp [go_sem, *]
      clear hK K
      (try simp only [Act.put, List.setIfInBounds_toArray, List.set_cons_zero, List.set_cons_succ])
      refine wpAnyM_oneS 13 rfl (by kernel_rfl) (fun K hK => ?_)
      go_simp
      (refine (mul_any _ _ _ _ (by have := SA.out; omega) (by have := SA.out; omega) (by have := SB.out; omega) (by have := SB.out; omega) rfl (by have := HPB.out; omega) (by have := HPB.out; omega)).mono ?_); rintro e w3 ⟨rfl, hb3⟩; have U3 : Upd c (h || dotB A B k || satH (A k) || satH (B k)) wr w3 := Upd.then H2.out hb3; have kp := keep4 U3 ra rb s0 s1 na nb n0 (hcS 1); have HU3 := Lib.hid U3; clear U3; have hz3 : w.heap.size < w3.heap.size := by have := HU3.out.size; omega
      (try dsimp only)
      (try simp only [Act.put, List.setIfInBounds_toArray, List.set_cons_zero, List.set_cons_succ])
      clear hHeld
      refine hK.out _ _ ?_ (fun hHeld => ?_)
      · exact kp
      clear hK K
      (try simp only [Act.put, List.setIfInBounds_toArray, List.set_cons_zero, List.set_cons_succ])
      refine wpAnyM_oneS 14 rfl (by kernel_rfl) (fun K hK => ?_)
      go_simp
      clear hHeld
      refine hK.out _ _ ?_ (fun hHeld => ?_)
      · obtain ⟨e1, e2, e3, e4⟩ := kp; simp [World.cell?_alloc_some, e1, e2, e3, e4]
      clear hK K
      (try simp only [Act.put, List.setIfInBounds_toArray, List.set_cons_zero, List.set_cons_succ])
      refine wpAnyM_oneS 15 rfl (by kernel_rfl) (fun K hK => ?_)
      go_simp
      (refine (wadd2_any (dotS A B k) (satV (A k) * satV (B k)) (dotS A B (k + 1)) w3.heap.size 2 _ (by have := HSB.out; omega) (by have := HSB.out; omega) (by have := HPB.out; omega) (by have := HPB.out; omega) rfl (by have := HSB.out; have := HPB.out; simp only [dotS]; omega) (by have := HSB.out; have := HPB.out; simp only [dotS]; omega) (by simp) (by simp) (by simp) (by simp)).mono ?_); rintro e w4 ⟨rfl, hb4⟩; have U4 : Upd c (h || dotB A B k || satH (A k) || satH (B k)) wr w4 := Upd.then (Upd.alloc HU3.out _) hb4; have kp2 := keep4 U4 ra rb s0 s1 na nb n0 (hcS 1); have fz0 : w4.frozen? ⟨w.heap.size, 0, none⟩ = false := (U4.frozen RSZ).trans t0; have fz1 : w4.frozen? ⟨w.heap.size, 1, none⟩ = false := (U4.frozen RSZ).trans t1; have HU4 := Lib.hid U4; clear U4; obtain ⟨x0, x1, y0, y1⟩ := kp2
      (try dsimp only)
      (try simp only [Act.put, List.setIfInBounds_toArray, List.set_cons_zero, List.set_cons_succ])
      clear hHeld
      refine hK.out _ _ ?_ (fun hHeld => ?_)
      · exact ⟨x0, x1, y0, y1⟩
      clear hK K
      (try simp only [Act.put, List.setIfInBounds_toArray, List.set_cons_zero, List.set_cons_succ])
      refine wpAnyM_take 16 (v := ?_) rfl (by kernel_rfl) (fun _ _ _ h => h) (Or.inl ⟨by rfl, ?_⟩) (by assumption) ?_
      rotate_left
      · (intro wx hSw; (try dsimp only at hSw); go_simp; (try with_reducible rfl))
      (try simp only [Act.put, List.setIfInBounds_toArray, List.set_cons_zero, List.set_cons_succ])
      refine wpAnyM_take 17 (v := ?_) rfl (by kernel_rfl) (fun _ _ _ h => h) (Or.inl ⟨by rfl, ?_⟩) (by assumption) ?_
      rotate_left
      · (intro wx hSw; (try dsimp only at hSw); go_simp; (try with_reducible rfl))
      (try simp only [Act.put, List.setIfInBounds_toArray, List.set_cons_zero, List.set_cons_succ])
      refine wpAnyM_takeW 18 (v := ?_) rfl (by kernel_rfl) (fun _ _ _ h => h) (Or.inl ⟨by rfl, ?_⟩) (.inr (by assumption)) ?_
      rotate_left
      · (intro wx hSw; (try dsimp only at hSw); go_simp; (try with_reducible rfl))
      (try simp only [Act.put, List.setIfInBounds_toArray, List.set_cons_zero, List.set_cons_succ])
      refine wpAnyM_one 19 rfl (by kernel_rfl) (fun K hK => ?_)
      go_simp
      refine hK.out _ _ (.inl (by kernel_rfl)) (fun _ => ?_)
      clear hK K
      (try simp only [Act.put, List.setIfInBounds_toArray, List.set_cons_zero, List.set_cons_succ])
      refine wpAnyM_done (by kernel_rfl) ?_ _
      go_wp2_with fail
      go_roundw
      case rel =>
        refine ⟨k + 1, by omega, by go_num, ?_⟩
        have U := HU.out.trans HU4.out
        have tc := two_cells y0 y1 (.int .i64 (hi64 (dotS A B (k + 1)))) (.int .u64 (lo64 (dotS A B (k + 1))))
        refine ⟨?_, tc.1, tc.2, by rw [World.frozen?_setCell, World.frozen?_setCell]; exact fz0, by rw [World.frozen?_setCell, World.frozen?_setCell]; exact fz1, ?_⟩
        · rw [show (h || dotB A B (k + 1)) = (h || dotB A B k || satH (A k) || satH (B k)) from by simp [dotB, Bool.or_assoc]]
          exact (U.setCell (Nat.le_refl _) _).setCell (Nat.le_refl _) _
        · have := HU4.out.size; simp [World.setCell]; omega
      case measure => simp [intOf]; omega
    · have hkn : k = n := by omega
      subst hkn
      have u := R.out.upd
      have sb := dotS_bd A B k
      have rc : wr.cell? c = some (.bool (h || dotB A B k)) := u.cellc HC.out
      have rf : wr.frozen? c = false := (u.frozen hcb).trans HF.out
      have s0 := R.out.c0
      have s1 := R.out.c1
      have HS := Lib.hid sb
      have HU := Lib.hid u
      clear u sb
      go_wp2_with fail
      refine (fround_any c _ (dotS A B k) s _ rc rf n1 n2 (by have := HS.out; omega) (by have := HS.out; omega)).mono ?_; rintro e w5 ⟨rfl, hu5⟩
      go_wp2_with fail
      go_ret
      exact ⟨rfl, HU.out.trans hu5⟩
theorem dot_any (c : Addr) (h : Bool) (s : Int) (A B : Nat → Int) (pa oa ca pb ob cb n : Nat) (w : World) (hc : w.cell? c = some (.bool h)) (hf : w.frozen? c = false)
    (s0 : 0 ≤ s) (s1 : s ≤ 120) (hn : n ≤ 100)
    (hA : ∀ i, i < n → w.cell? ⟨pa, oa + i, none⟩ = some (.int .i64 (A i))) (hB : ∀ i, i < n → w.cell? ⟨pb, ob + i, none⟩ = some (.int .i64 (B i))) :
    Calls Try.prog 37 #[.pointer (some c), .int .i64 s, .slice (some ⟨pa, oa, none⟩) n ca, .slice (some ⟨pb, ob, none⟩) n cb] w fun e w' =>
      e = .returned (.int .i64 (dotV s A B n)) ∧ Upd c (h || dotH s A B n) w w' := by
  have hs : ¬ (s < 0 ∨ 120 < s) := by omega
  have e1 : dotV s A B n = satV (rsh (dotS A B n) s.toNat) := by simp only [dotV, if_neg hs]
  have e2 : (h || dotH s A B n) = (h || dotB A B n || satH (rsh (dotS A B n) s.toNat)) := by simp only [dotH, if_neg hs, Bool.or_assoc]
  rw [e1, e2]
  exact dot_in c h s A B pa oa ca pb ob cb n w hc hf s0 s1 hn hA hB
end Go.Proofs.Ytglpbcionohipaa
