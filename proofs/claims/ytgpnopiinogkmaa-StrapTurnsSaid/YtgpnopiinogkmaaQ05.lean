/- Contracts of the program's functions and plain laws, part 5: they hold for all arguments. -/
import Derived.Test.YtgpnopiinogkmaaQ04
import Derived.Test.YtgpnopiinogkmaaQ03
import Derived.Test.YtgpnopiinogkmaaProg
import Derived.WalkKit
import Derived.WalkSpells
import Derived.WalkLawsBesides
import Derived.KernelRfl
import Derived.Test.YtgpnopiinogkmaaQ01
import Derived.Laws.Tables
import Derived.Deep.WholeRow
/- Contract of fx.Dot. -/
namespace Go.Proofs.Ytgpnopiinogkmaa
open Go.RowKit
set_option maxRecDepth 100000
theorem ne_of_cells {w : World} {c a : Addr} {h : Bool} {n : Int} (hc : w.cell? c = some (.bool h)) (ha : w.cell? a = some (.int .i64 n)) : c ≠ a := by
  intro e; rw [e, ha] at hc; cases hc
/-- What holds at the head of a round of Dot: the sum so far stands in the call's own cells. -/
structure DotR (c : Addr) (h : Bool) (A B : Nat → Int) (w : World) (k : Nat) (wr : World) : Prop where
  upd : Upd c (h || dotB A B k) w wr
  c0 : wr.cell? ⟨w.heap.size, 0, none⟩ = some (.int .i64 (hi64 (dotS A B k)))
  c1 : wr.cell? ⟨w.heap.size, 1, none⟩ = some (.int .u64 (lo64 (dotS A B k)))
  f0 : wr.frozen? ⟨w.heap.size, 0, none⟩ = false
  f1 : wr.frozen? ⟨w.heap.size, 1, none⟩ = false
  sz : w.heap.size < wr.heap.size
theorem keep2 {c : Addr} {h : Bool} {w w' : World} (u : Upd c h w w') {a1 a2 : Addr} {v1 v2 : Value} (h1 : w.cell? a1 = some v1) (h2 : w.cell? a2 = some v2)
    (n1 : c ≠ a1) (n2 : c ≠ a2) : w'.cell? a1 = some v1 ∧ w'.cell? a2 = some v2 :=
  ⟨(u.cell (World.block_lt_of_cell? w _ h1) n1).trans h1, (u.cell (World.block_lt_of_cell? w _ h2) n2).trans h2⟩
theorem keep4 {c : Addr} {h : Bool} {w w' : World} (u : Upd c h w w') {a1 a2 a3 a4 : Addr} {v1 v2 v3 v4 : Value} (h1 : w.cell? a1 = some v1) (h2 : w.cell? a2 = some v2) (h3 : w.cell? a3 = some v3) (h4 : w.cell? a4 = some v4)
    (n1 : c ≠ a1) (n2 : c ≠ a2) (n3 : c ≠ a3) (n4 : c ≠ a4) : w'.cell? a1 = some v1 ∧ w'.cell? a2 = some v2 ∧ w'.cell? a3 = some v3 ∧ w'.cell? a4 = some v4 :=
  ⟨(u.cell (World.block_lt_of_cell? w _ h1) n1).trans h1, (u.cell (World.block_lt_of_cell? w _ h2) n2).trans h2, (u.cell (World.block_lt_of_cell? w _ h3) n3).trans h3, (u.cell (World.block_lt_of_cell? w _ h4) n4).trans h4⟩
set_option maxHeartbeats 1000000 in
theorem dot_in (c : Addr) (h : Bool) (s : Int) (A B : Nat → Int) (pa oa ca pb ob cb n : Nat) (w : World) (hc : w.cell? c = some (.bool h)) (hf : w.frozen? c = false)
    (s0 : 0 ≤ s) (s1 : s ≤ 120) (hn : n ≤ 100)
    (hA : ∀ i, i < n → w.cell? ⟨pa, oa + i, none⟩ = some (.int .i64 (A i))) (hB : ∀ i, i < n → w.cell? ⟨pb, ob + i, none⟩ = some (.int .i64 (B i))) :
    Calls Try.prog 30 #[.pointer (some c), .int .i64 s, .slice (some ⟨pa, oa, none⟩) n ca, .slice (some ⟨pb, ob, none⟩) n cb] w fun e w' =>
      e = .returned (.int .i64 (satV (rsh (dotS A B n) s.toNat))) ∧ Upd c (h || dotB A B n || satH (rsh (dotS A B n) s.toNat)) w w' := by
  have hcb := World.block_lt_of_cell? w c hc
  have n1 : ¬ s < 0 := by omega
  have n2 : ¬ 120 < s := by omega
  have HA := Lib.hid hA
  have HB := Lib.hid hB
  have HC := Lib.hid hc
  have HF := Lib.hid hf
  clear hA hB hc hf
  go_enter Try.func30, Try.ntmps30
  go_wp2_with fail
  go_loopw [26] (fun i wr => ∃ k : Nat, k ≤ n ∧ i = .int .i64 k ∧ Hid (DotR c h A B w k wr)) (fun i _ => n - (intOf i).toNat)
  case atStart =>
    refine ⟨0, Nat.zero_le _, rfl, ⟨?_, by simp [dotS, hi64], by simp [dotS, lo64], by simp, by simp, by simp⟩⟩
    rw [show (h || dotB A B 0) = h from by simp [dotB]]
    exact Upd.then (Upd.refl HC.out) (by (repeat (first | with_reducible exact Below.refl _ _ | with_reducible apply Below.drew | (with_reducible refine below_drewN ?_ _) | (with_reducible refine Below.alloc ?_ (by (try simp) <;> omega) _) | (with_reducible refine Below.setCell ?_ (by (try simp) <;> omega) _))))
  case round =>
    obtain ⟨k, hk, rfl, R⟩ := hrel
    by_cases hlt : k < n
    · have a0 := HA.out k hlt
      have b0 := HB.out k hlt
      have hsb := dotS_bd A B k
      have hpb := prod_bd (A k) (B k)
      have u := R.out.upd
      have ra : wr.cell? ⟨pa, oa + k, none⟩ = some (.int .i64 (A k)) := (u.cell (World.block_lt_of_cell? w _ a0) (ne_of_cells HC.out a0)).trans a0
      have rb : wr.cell? ⟨pb, ob + k, none⟩ = some (.int .i64 (B k)) := (u.cell (World.block_lt_of_cell? w _ b0) (ne_of_cells HC.out b0)).trans b0
      have rc : wr.cell? c = some (.bool (h || dotB A B k)) := u.cellc HC.out
      have rf : wr.frozen? c = false := (u.frozen hcb).trans HF.out
      have s0 := R.out.c0
      have s1 := R.out.c1
      have t0 := R.out.f0
      have t1 := R.out.f1
      have na := ne_of_cells rc ra
      have nb := ne_of_cells rc rb
      have n0 := ne_of_cells rc s0
      have sA := satV_bd (A k)
      have sB := satV_bd (B k)
      have g1 : (wr.drew.setCell c (.bool (h || dotB A B k || satH (A k)))).cell? c = some (.bool (h || dotB A B k || satH (A k))) := World.cell?_setCell_same _ _ _ rc
      have U2 : Upd c (h || dotB A B k || satH (A k) || satH (B k)) wr ((wr.drew.setCell c (.bool (h || dotB A B k || satH (A k)))).setCell c (.bool (h || dotB A B k || satH (A k) || satH (B k)))) :=
        Upd.trans (Upd.after (Below.drew (Below.refl _ _)) (Upd.set c _ wr.drew)) (Upd.set c _ _)
      have RSZ := R.out.sz
      have Z2 := U2.size
      have H2 := Lib.hid U2
      have G1 := Lib.hid g1
      have HU := Lib.hid u
      have HSB := Lib.hid hsb
      have HPB := Lib.hid hpb
      have SA := Lib.hid sA
      have SB := Lib.hid sB
      clear U2 g1 u hsb hpb sA sB Z2
      go_wp2_with fail
      have hcS : ∀ o, c ≠ ⟨w.heap.size, o, none⟩ := fun o e => by rw [e] at hcb; simp at hcb
      have z0 : wr.heap.size ≠ pa ∧ wr.heap.size ≠ pb := ⟨World.new_ne wr _ ra, World.new_ne wr _ rb⟩
      refine wp_region_M (fun w' => w'.cell? ⟨pa, oa + k, none⟩ = some (.int .i64 (A k)) ∧ w'.cell? ⟨pb, ob + k, none⟩ = some (.int .i64 (B k)) ∧ w'.cell? ⟨w.heap.size, 0, none⟩ = some (.int .i64 (hi64 (dotS A B k))) ∧ w'.cell? ⟨w.heap.size, 1, none⟩ = some (.int .u64 (lo64 (dotS A B k)))) 19 (by kernel_rfl) ?_ (fun hHeld => ?_)
      · exact ⟨ra, rb, s0, s1⟩
      refine wpAnyM_take 0 (v := ?_) rfl (by kernel_rfl) (fun _ _ _ h => h) (Or.inl ⟨by rfl, ?_⟩) (by assumption) ?_
      rotate_left
      · (intro wx hSw; (try dsimp only at hSw); go_simp; (try with_reducible rfl))
      (try simp only [Act.put, nA, nB, nC])
      refine wpAnyM_take 1 (v := ?_) rfl (by kernel_rfl) (fun _ _ _ h => h) (Or.inl ⟨by rfl, ?_⟩) (by assumption) ?_
      rotate_left
      · (intro wx hSw; (try dsimp only at hSw); go_simp; (try with_reducible rfl))
      (try simp only [Act.put, nA, nB, nC])
      refine wpAnyM_take 2 (v := ?_) rfl (by kernel_rfl) (fun _ _ _ h => h) (Or.inl ⟨by rfl, ?_⟩) (by assumption) ?_
      rotate_left
      · (intro wx hSw; (try dsimp only at hSw); go_simp; (try with_reducible rfl))
      (try simp only [Act.put, nA, nB, nC])
      refine wpAnyM_take 3 (v := ?_) rfl (by kernel_rfl) (fun _ _ _ h => h) (Or.inl ⟨by rfl, ?_⟩) (by assumption) ?_
      rotate_left
      · (intro wx hSw; (try dsimp only at hSw); go_simp; (try with_reducible rfl))
      (try simp only [Act.put, nA, nB, nC])
      refine wpAnyM_take 4 (v := ?_) rfl (by kernel_rfl) (fun _ _ _ h => h) (Or.inl ⟨by rfl, ?_⟩) (by assumption) ?_
      rotate_left
      · (intro wx hSw; (try dsimp only at hSw); go_simp; (try with_reducible rfl))
      (try simp only [Act.put, nA, nB, nC])
      refine wpAnyM_take 5 (v := ?_) rfl (by kernel_rfl) (fun _ _ _ h => h) (Or.inl ⟨by rfl, ?_⟩) (by assumption) ?_
      rotate_left
      · (intro wx hSw; (try dsimp only at hSw); go_simp; (try with_reducible rfl))
      (try simp only [Act.put, nA, nB, nC])
      refine wpAnyM_take 7 (v := ?_) rfl (by kernel_rfl) (fun _ _ _ h => h) (Or.inl ⟨by rfl, ?_⟩) (by assumption) ?_
      rotate_left
      · (intro wx hSw; (try dsimp only at hSw); go_simp; (try with_reducible rfl))
      (try simp only [Act.put, nA, nB, nC])
      refine wpAnyM_take 8 (v := ?_) rfl (by kernel_rfl) (fun _ _ _ h => h) (Or.inl ⟨by rfl, ?_⟩) (by assumption) ?_
      rotate_left
      · (intro wx hSw; (try dsimp only at hSw); go_simp; (try with_reducible rfl))
      (try simp only [Act.put, nA, nB, nC])
      refine wpAnyM_take 9 (v := ?_) rfl (by kernel_rfl) (fun _ _ _ h => h) (Or.inl ⟨by rfl, ?_⟩) (by assumption) ?_
      rotate_left
      · (intro wx hSw; (try dsimp only at hSw); go_simp; (try with_reducible rfl))
      (try simp only [Act.put, nA, nB, nC])
      refine wpAnyM_take 10 (v := ?_) rfl (by kernel_rfl) (fun _ _ _ h => h) (Or.inl ⟨by rfl, ?_⟩) (by assumption) ?_
      rotate_left
      · (intro wx hSw; (try dsimp only at hSw); go_simp; (try with_reducible rfl))
      (try simp only [Act.put, nA, nB, nC])
      refine wpAnyM_take 11 (v := ?_) rfl (by kernel_rfl) (fun _ _ _ h => h) (Or.inl ⟨by rfl, ?_⟩) (by assumption) ?_
      rotate_left
      · (intro wx hSw; (try dsimp only at hSw); go_simp; (try with_reducible rfl))
      (try simp only [Act.put, nA, nB, nC])
      refine wpAnyM_oneS 6 rfl (by kernel_rfl) (fun K hK => ?_)
      go_simp
      (refine (sat_any c (h || dotB A B k) (A k) wr.drew rc rf).mono ?_); rintro e w' ⟨rfl, rfl⟩
      (try dsimp only)
      (try simp only [Act.put, nA, nB, nC])
      clear hHeld
      refine hK.out _ _ ?_ (fun hHeld => ?_)
      · simp [go_sem, *]
      clear hK K
      (try simp only [Act.put, nA, nB, nC])
      refine wpAnyM_oneS 12 rfl (by kernel_rfl) (fun K hK => ?_)
      go_simp
      (refine (sat_any c (h || dotB A B k || satH (A k)) (B k) _ G1.out (by simp [rf])).mono ?_); rintro e w' ⟨rfl, rfl⟩
      (try dsimp only)
      (try simp only [Act.put, nA, nB, nC])
      clear hHeld
      refine hK.out _ _ ?_ (fun hHeld => ?_)
      · simp [go_sem, *]
      clear hK K
      (try simp only [Act.put, nA, nB, nC])
      refine wpAnyM_oneS 13 rfl (by kernel_rfl) (fun K hK => ?_)
      go_simp
      (refine (mul_any _ _ _ _ (by have := SA.out; omega) (by have := SA.out; omega) (by have := SB.out; omega) (by have := SB.out; omega) rfl (by have := HPB.out; omega) (by have := HPB.out; omega)).mono ?_); rintro e w3 ⟨rfl, hb3⟩; have U3 : Upd c (h || dotB A B k || satH (A k) || satH (B k)) wr w3 := Upd.then H2.out hb3; have kp := keep4 U3 ra rb s0 s1 na nb n0 (hcS 1); have HU3 := Lib.hid U3; clear U3; have hz3 : w.heap.size < w3.heap.size := by have := HU3.out.size; omega
      (try dsimp only)
      (try simp only [Act.put, nA, nB, nC])
      clear hHeld
      refine hK.out _ _ ?_ (fun hHeld => ?_)
      · exact kp
      clear hK K
      (try simp only [Act.put, nA, nB, nC])
      refine wpAnyM_oneS 14 rfl (by kernel_rfl) (fun K hK => ?_)
      go_simp
      clear hHeld
      refine hK.out _ _ ?_ (fun hHeld => ?_)
      · obtain ⟨e1, e2, e3, e4⟩ := kp; simp [World.cell?_alloc_some, e1, e2, e3, e4]
      clear hK K
      (try simp only [Act.put, nA, nB, nC])
      refine wpAnyM_oneS 15 rfl (by kernel_rfl) (fun K hK => ?_)
      go_simp
      (refine (wadd2_any (dotS A B k) (satV (A k) * satV (B k)) (dotS A B (k + 1)) w3.heap.size 2 _ (by have := HSB.out; omega) (by have := HSB.out; omega) (by have := HPB.out; omega) (by have := HPB.out; omega) rfl (by have := HSB.out; have := HPB.out; simp only [dotS]; omega) (by have := HSB.out; have := HPB.out; simp only [dotS]; omega) (by simp) (by simp) (by simp) (by simp)).mono ?_); rintro e w4 ⟨rfl, hb4⟩; have U4 : Upd c (h || dotB A B k || satH (A k) || satH (B k)) wr w4 := Upd.then (Upd.alloc HU3.out _) hb4; have kp2 := keep4 U4 ra rb s0 s1 na nb n0 (hcS 1); have fz0 : w4.frozen? ⟨w.heap.size, 0, none⟩ = false := (U4.frozen RSZ).trans t0; have fz1 : w4.frozen? ⟨w.heap.size, 1, none⟩ = false := (U4.frozen RSZ).trans t1; have HU4 := Lib.hid U4; clear U4; obtain ⟨x0, x1, y0, y1⟩ := kp2
      (try dsimp only)
      (try simp only [Act.put, nA, nB, nC])
      clear hHeld
      refine hK.out _ _ ?_ (fun hHeld => ?_)
      · exact ⟨x0, x1, y0, y1⟩
      clear hK K
      (try simp only [Act.put, nA, nB, nC])
      refine wpAnyM_take 16 (v := ?_) rfl (by kernel_rfl) (fun _ _ _ h => h) (Or.inl ⟨by rfl, ?_⟩) (by assumption) ?_
      rotate_left
      · (intro wx hSw; (try dsimp only at hSw); go_simp; (try with_reducible rfl))
      (try simp only [Act.put, nA, nB, nC])
      refine wpAnyM_take 17 (v := ?_) rfl (by kernel_rfl) (fun _ _ _ h => h) (Or.inl ⟨by rfl, ?_⟩) (by assumption) ?_
      rotate_left
      · (intro wx hSw; (try dsimp only at hSw); go_simp; (try with_reducible rfl))
      (try simp only [Act.put, nA, nB, nC])
      refine wpAnyM_takeW 18 (v := ?_) rfl (by kernel_rfl) (fun _ _ _ h => h) (Or.inl ⟨by rfl, ?_⟩) (.inr (by assumption)) ?_
      rotate_left
      · (intro wx hSw; (try dsimp only at hSw); go_simp; (try with_reducible rfl))
      (try simp only [Act.put, nA, nB, nC])
      refine wpAnyM_one 19 rfl (by kernel_rfl) (fun K hK => ?_)
      go_simp
      refine hK.out _ _ (.inl (by kernel_rfl)) (fun _ => ?_)
      clear hK K
      (try simp only [Act.put, nA, nB, nC])
      refine wpAnyM_done (by kernel_rfl) ?_ _
      go_wp2_with fail
      go_roundw
      case rel =>
        refine ⟨k + 1, by omega, by go_num, ?_⟩
        have U := HU.out.trans HU4.out
        have tc := two_cells y0 y1 (.int .i64 (hi64 (dotS A B (k + 1)))) (.int .u64 (lo64 (dotS A B (k + 1))))
        refine ⟨?_, tc.1, tc.2, by rw [World.frozen?_setCell, World.frozen?_setCell]; exact fz0, by rw [World.frozen?_setCell, World.frozen?_setCell]; exact fz1, ?_⟩
        · rw [show (h || dotB A B (k + 1)) = (h || dotB A B k || satH (A k) || satH (B k)) from by simp [dotB, Bool.or_assoc]]
          exact (U.setCell (Nat.le_refl _) _).setCell (Nat.le_refl _) _
        · have := HU4.out.size; simp [World.setCell]; omega
      case measure => simp [intOf]; omega
    · have hkn : k = n := by omega
      subst hkn
      have u := R.out.upd
      have sb := dotS_bd A B k
      have rc : wr.cell? c = some (.bool (h || dotB A B k)) := u.cellc HC.out
      have rf : wr.frozen? c = false := (u.frozen hcb).trans HF.out
      have s0 := R.out.c0
      have s1 := R.out.c1
      have HS := Lib.hid sb
      have HU := Lib.hid u
      clear u sb
      go_wp2_with fail
      refine (fround_any c _ (dotS A B k) s _ rc rf n1 n2 (by have := HS.out; omega) (by have := HS.out; omega)).mono ?_; rintro e w5 ⟨rfl, hu5⟩
      go_wp2_with fail
      go_ret
      exact ⟨rfl, HU.out.trans hu5⟩
theorem dot_any (c : Addr) (h : Bool) (s : Int) (A B : Nat → Int) (pa oa ca pb ob cb n : Nat) (w : World) (hc : w.cell? c = some (.bool h)) (hf : w.frozen? c = false)
    (s0 : 0 ≤ s) (s1 : s ≤ 120) (hn : n ≤ 100)
    (hA : ∀ i, i < n → w.cell? ⟨pa, oa + i, none⟩ = some (.int .i64 (A i))) (hB : ∀ i, i < n → w.cell? ⟨pb, ob + i, none⟩ = some (.int .i64 (B i))) :
    Calls Try.prog 30 #[.pointer (some c), .int .i64 s, .slice (some ⟨pa, oa, none⟩) n ca, .slice (some ⟨pb, ob, none⟩) n cb] w fun e w' =>
      e = .returned (.int .i64 (dotV s A B n)) ∧ Upd c (h || dotH s A B n) w w' := by
  have hs : ¬ (s < 0 ∨ 120 < s) := by omega
  have e1 : dotV s A B n = satV (rsh (dotS A B n) s.toNat) := by simp only [dotV, if_neg hs]
  have e2 : (h || dotH s A B n) = (h || dotB A B n || satH (rsh (dotS A B n) s.toNat)) := by simp only [dotH, if_neg hs, Bool.or_assoc]
  rw [e1, e2]
  exact dot_in c h s A B pa oa ca pb ob cb n w hc hf s0 s1 hn hA hB
end Go.Proofs.Ytgpnopiinogkmaa
/- The great noughts by name, where the program's own form does not name them. -/
namespace Go.Proofs.Ytgpnopiinogkmaa
open Go
end Go.Proofs.Ytgpnopiinogkmaa
/- Arrays of int64 as functions: the cells of a block; small laws. -/
namespace Go.Proofs.Ytgpnopiinogkmaa
open Go.RowKit
/-- n numbers, as cells. -/
def arrv (n : Nat) (f : Nat → Int) : Array Value := Array.ofFn (n := n) fun i => .int .i64 (f i)
theorem arrv_size (n : Nat) (f : Nat → Int) : (arrv n f).size = n := by simp [arrv]
theorem arrv_get {n : Nat} {f : Nat → Int} {i : Nat} (h : i < n) : (arrv n f)[i]? = some (.int .i64 (f i)) := by simp [arrv, h]
theorem arrv_set (n : Nat) (f : Nat → Int) (j : Nat) (v : Int) : (arrv n f).setIfInBounds j (.int .i64 v) = arrv n (upd f j v) := by
  apply Array.ext_getElem?
  intro i
  rw [Array.getElem?_setIfInBounds]
  by_cases hi : i < n
  · rw [arrv_get hi]
    by_cases hj : j = i
    · subst hj; rw [if_pos rfl, arrv_get hi, arrv_size, if_pos hi]; simp [upd]
    · rw [if_neg hj, arrv_get hi]; simp [upd, show ¬ i = j by omega]
  · rw [Array.getElem?_eq_none (by rw [arrv_size]; omega)]
    rw [Array.getElem?_eq_none (xs := arrv n (upd f j v)) (by rw [arrv_size]; omega)]
    split
    · rw [arrv_size, if_neg (by omega)]
    · rfl
theorem arrv_congr {n : Nat} {f g : Nat → Int} (h : ∀ i, i < n → f i = g i) : arrv n f = arrv n g := by
  apply Array.ext_getElem?
  intro i
  by_cases hi : i < n
  · rw [arrv_get hi, arrv_get hi, h i hi]
  · rw [Array.getElem?_eq_none (by rw [arrv_size]; omega), Array.getElem?_eq_none (by rw [arrv_size]; omega)]
/-- Block b holds the numbers f. -/
def Blk (w : World) (b : Nat) (T : TypeId) (n : Nat) (f : Nat → Int) : Prop := w.heap[b]? = some (.cells (arrv n f) T (0, 0))
theorem Blk.cell {w : World} {b T n : Nat} {f : Nat → Int} (h : Blk w b T n f) {i : Nat} (hi : i < n) : w.cell? ⟨b, i, none⟩ = some (.int .i64 (f i)) := by
  rw [cell_of_row w b i _ _ _ h, arrv_get hi]
theorem Blk.free {w : World} {b T n : Nat} {f : Nat → Int} (h : Blk w b T n f) (i : Nat) : w.frozen? ⟨b, i, none⟩ = false := frozen_of_row w b i _ _ h
theorem Blk.lt {w : World} {b T n : Nat} {f : Nat → Int} (h : Blk w b T n f) : b < w.heap.size := by
  rcases Nat.lt_or_ge b w.heap.size with h' | h'
  · exact h'
  · unfold Blk at h; rw [Array.getElem?_eq_none h'] at h; cases h
theorem Blk.set {w : World} {b T n : Nat} {f : Nat → Int} (h : Blk w b T n f) (j : Nat) (v : Int) : Blk (w.setCell ⟨b, j, none⟩ (.int .i64 v)) b T n (upd f j v) := by
  have := heap_setCell_same w b j _ _ (.int .i64 v) h
  unfold Blk
  rw [this, arrv_set]
theorem Blk.other {w : World} {b T n : Nat} {f : Nat → Int} (h : Blk w b T n f) {a : Addr} (ha : b ≠ a.block) (v : Value) : Blk (w.setCell a v) b T n f :=
  (heap_setCell_other w a b v ha).trans h
theorem Blk.alloc {w : World} {b T n : Nat} {f : Nat → Int} (h : Blk w b T n f) (o : Obj) : Blk (w.alloc o) b T n f := ((Below.refl w.heap.size w).alloc (Nat.le_refl _) o).block b h.lt |>.trans h
theorem Blk.drew {w : World} {b T n : Nat} {f : Nat → Int} (h : Blk w b T n f) : Blk w.drew b T n f := h
theorem Blk.below {w w' : World} {b T n : Nat} {f : Nat → Int} (h : Blk w b T n f) (hb : Below w.heap.size w w') : Blk w' b T n f := (hb.block b h.lt).trans h
theorem Blk.upd {w w' : World} {b T n : Nat} {f : Nat → Int} (h : Blk w b T n f) {c : Addr} {v : Bool} (u : Upd c v w w') (hn : b ≠ c.block) : Blk w' b T n f := (u.block h.lt hn).trans h
theorem Blk.new (w : World) (T n : Nat) (f : Nat → Int) : Blk (w.alloc (.cells (arrv n f) T)) w.heap.size T n f := heap_alloc_new w _
theorem Blk.new1 (w : World) (o : Obj) (T n : Nat) (f : Nat → Int) : Blk ((w.alloc o).alloc (.cells (arrv n f) T)) (w.heap.size + 1) T n f := by
  have h := Blk.new (w.alloc o) T n f
  rwa [show (w.alloc o).heap.size = w.heap.size + 1 from by simp] at h
theorem blk_new2 (w : World) (o o2 : Obj) (T n : Nat) (f : Nat → Int) : Blk (((w.alloc o).alloc o2).alloc (.cells (arrv n f) T)) (w.heap.size + 1 + 1) T n f := by
  have h := Blk.new1 (w.alloc o) o2 T n f
  rwa [show (w.alloc o).heap.size = w.heap.size + 1 from by simp] at h
theorem blk_new3 (w : World) (o o2 o3 : Obj) (T n : Nat) (f : Nat → Int) : Blk ((((w.alloc o).alloc o2).alloc o3).alloc (.cells (arrv n f) T)) (w.heap.size + 1 + 1 + 1) T n f := by
  have h := blk_new2 (w.alloc o) o2 o3 T n f
  rwa [show (w.alloc o).heap.size = w.heap.size + 1 from by simp] at h
theorem Blk.congr {w : World} {b T n : Nat} {f g : Nat → Int} (h : Blk w b T n f) (e : ∀ i, i < n → f i = g i) : Blk w b T n g := by unfold Blk at *; rw [h, arrv_congr e]
theorem Blk.setRow {w : World} {b T n : Nat} {f : Nat → Int} (h : Blk w b T n f) (g : Nat → Int) : Blk (w.setRow b (arrv n g)) b T n g := setRow_heap w b _ _ T _ h
theorem Blk.setRow_other {w : World} {b T n k : Nat} {f : Nat → Int} (h : Blk w b T n f) (cs : Array Value) (hk : b ≠ k) : Blk (w.setRow k cs) b T n f := (Go.setRow_other w k b cs hk).trans h
/-- A flag's cell is in no block of numbers. -/
theorem Blk.flag {w : World} {b T n : Nat} {f : Nat → Int} (h : Blk w b T n f) {c : Addr} {v : Bool} (hc : w.cell? c = some (.bool v)) : b ≠ c.block := by
  intro e
  unfold World.cell? at hc
  rw [← e, h] at hc
  simp only at hc
  split at hc
  · cases hc
  · by_cases hi : c.off < n
    · rw [arrv_get hi] at hc; cases hc
    · rw [Array.getElem?_eq_none (by rw [arrv_size]; omega)] at hc; cases hc
theorem below_row {B g : Nat} {w0 w : World} (hb : Below B w0 w) (hBg : B ≤ g) (cs : Array Value) : Below B w0 (w.setRow g cs) :=
  hb.trans ⟨rfl, rfl, rfl, by simp, fun k hk => Go.setRow_other w g k cs (by omega)⟩
theorem oneCell_arrv (n : Nat) (f : Nat → Int) : (arrv n f).all (·.oneCell') = true := by
  rw [Array.all_eq_true]
  intro i hi
  simp [arrv, Value.oneCell']
end Go.Proofs.Ytgpnopiinogkmaa
/- Contract of fx.Add. -/
namespace Go.Proofs.Ytgpnopiinogkmaa
open Go.RowKit
set_option maxRecDepth 100000
theorem of_any (a : Int) (w : World) (h1 : -9223372036854775808 ≤ a) (h2 : a < 9223372036854775808) :
    Calls Try.prog 70 #[.int .i64 a] w fun e w' => e = .returned (Wv a) ∧ Below w.heap.size w w' := by
  go_enter Try.func70, Try.ntmps70
  go_wp2_with fail
  simp [bodyPost, results, Try.results70, go_sem]
  refine ⟨?_, ?_⟩
  · simp only [Wv, Value.agg.injEq, IntKind.wrap_u64]
    have : a / 9223372036854775808 = hi64 a := by unfold hi64; omega
    rw [this]; rfl
  · (repeat (first | with_reducible exact Below.refl _ _ | with_reducible apply Below.drew | (with_reducible refine below_drewN ?_ _) | (with_reducible refine Below.alloc ?_ (by (try simp) <;> omega) _) | (with_reducible refine Below.setCell ?_ (by (try simp) <;> omega) _)))
/-- wide.Of. -/
theorem wof_any (a : Int) (w : World) (h1 : -9223372036854775808 ≤ a) (h2 : a < 9223372036854775808) :
    Calls Try.prog 70 #[.int .i64 a] w fun e w' => e = .returned (.agg #[.int .i64 (hi64 a), .int .u64 (lo64 a)]) ∧ Below w.heap.size w w' := of_any a w h1 h2
structure AddR (c : Addr) (h : Bool) (A : Nat → Int) (w : World) (k : Nat) (wr : World) : Prop where
  upd : Upd c (h || sumB A k) w wr
  c0 : wr.cell? ⟨w.heap.size, 0, none⟩ = some (.int .i64 (hi64 (sumS A k)))
  c1 : wr.cell? ⟨w.heap.size, 1, none⟩ = some (.int .u64 (lo64 (sumS A k)))
  f0 : wr.frozen? ⟨w.heap.size, 0, none⟩ = false
  f1 : wr.frozen? ⟨w.heap.size, 1, none⟩ = false
  sz : w.heap.size < wr.heap.size
set_option maxHeartbeats 1000000 in
theorem fadd_any (c : Addr) (h : Bool) (A : Nat → Int) (pa oa ca n : Nat) (w : World) (hc : w.cell? c = some (.bool h)) (hf : w.frozen? c = false) (hn : n ≤ 100)
    (hA : ∀ i, i < n → w.cell? ⟨pa, oa + i, none⟩ = some (.int .i64 (A i))) :
    Calls Try.prog 49 #[.pointer (some c), .slice (some ⟨pa, oa, none⟩) n ca] w fun e w' =>
      e = .returned (.int .i64 (satV (sumS A n))) ∧ Upd c (h || sumB A n || satH (sumS A n)) w w' := by
  have hcb := World.block_lt_of_cell? w c hc
  have HA := Lib.hid hA
  have HC := Lib.hid hc
  have HF := Lib.hid hf
  clear hA hc hf
  go_enter Try.func49, Try.ntmps49
  go_wp2_with fail
  go_loopw [12] (fun i wr => ∃ k : Nat, k ≤ n ∧ i = .int .i64 k ∧ Hid (AddR c h A w k wr)) (fun i _ => n - (intOf i).toNat)
  case atStart =>
    refine ⟨0, Nat.zero_le _, rfl, ⟨?_, by simp [sumS, hi64], by simp [sumS, lo64], by simp, by simp, by simp⟩⟩
    rw [show (h || sumB A 0) = h from by simp [sumB]]
    exact Upd.then (Upd.refl HC.out) (by (repeat (first | with_reducible exact Below.refl _ _ | with_reducible apply Below.drew | (with_reducible refine below_drewN ?_ _) | (with_reducible refine Below.alloc ?_ (by (try simp) <;> omega) _) | (with_reducible refine Below.setCell ?_ (by (try simp) <;> omega) _))))
  case round =>
    obtain ⟨k, hk, rfl, R⟩ := hrel
    by_cases hlt : k < n
    · have a0 := HA.out k hlt
      have hsb := sumS_bd A k
      have u := R.out.upd
      have ra : wr.cell? ⟨pa, oa + k, none⟩ = some (.int .i64 (A k)) := (u.cell (World.block_lt_of_cell? w _ a0) (ne_of_cells HC.out a0)).trans a0
      have rc : wr.cell? c = some (.bool (h || sumB A k)) := u.cellc HC.out
      have rf : wr.frozen? c = false := (u.frozen hcb).trans HF.out
      have s0 := R.out.c0
      have s1 := R.out.c1
      have t0 := R.out.f0
      have t1 := R.out.f1
      have n0 := ne_of_cells rc s0
      have sA := satV_bd (A k)
      have RSZ := R.out.sz
      have U2 : Upd c (h || sumB A k || satH (A k)) wr (wr.drew.setCell c (.bool (h || sumB A k || satH (A k)))) := Upd.after (Below.drew (Below.refl _ _)) (Upd.set c _ wr.drew)
      have H2 := Lib.hid U2
      have HU := Lib.hid u
      have HSB := Lib.hid hsb
      have SA := Lib.hid sA
      clear U2 u hsb sA
      have hcS : ∀ o, c ≠ ⟨w.heap.size, o, none⟩ := fun o e => by rw [e] at hcb; simp at hcb
      go_wp2_with fail
      refine wp_region_M (fun w' => w'.cell? ⟨w.heap.size, 0, none⟩ = some (.int .i64 (hi64 (sumS A k))) ∧ w'.cell? ⟨w.heap.size, 1, none⟩ = some (.int .u64 (lo64 (sumS A k)))) 10 (by kernel_rfl) ?_ (fun hHeld => ?_)
      · exact ⟨s0, s1⟩
      refine wpAnyM_take 0 (v := ?_) rfl (by kernel_rfl) (fun _ _ _ h => h) (Or.inl ⟨by rfl, ?_⟩) (by assumption) ?_
      rotate_left
      · (intro wx hSw; (try dsimp only at hSw); go_simp; (try with_reducible rfl))
      (try simp only [Act.put, nA, nB, nC])
      refine wpAnyM_take 1 (v := ?_) rfl (by kernel_rfl) (fun _ _ _ h => h) (Or.inl ⟨by rfl, ?_⟩) (by assumption) ?_
      rotate_left
      · (intro wx hSw; (try dsimp only at hSw); go_simp; (try with_reducible rfl))
      (try simp only [Act.put, nA, nB, nC])
      refine wpAnyM_take 2 (v := ?_) rfl (by kernel_rfl) (fun _ _ _ h => h) (Or.inl ⟨by rfl, ?_⟩) (by assumption) ?_
      rotate_left
      · (intro wx hSw; (try dsimp only at hSw); go_simp; (try with_reducible rfl))
      (try simp only [Act.put, nA, nB, nC])
      refine wpAnyM_oneS 3 rfl (by kernel_rfl) (fun K hK => ?_)
      go_simp
      (refine (sat_any c (h || sumB A k) (A k) wr.drew rc rf).mono ?_); rintro e w' ⟨rfl, rfl⟩
      (try dsimp only)
      (try simp only [Act.put, nA, nB, nC])
      clear hHeld
      refine hK.out _ _ ?_ (fun hHeld => ?_)
      · simp [go_sem, *]
      clear hK K
      (try simp only [Act.put, nA, nB, nC])
      refine wpAnyM_oneS 4 rfl (by kernel_rfl) (fun K hK => ?_)
      go_simp
      (refine (wof_any _ _ (by have := SA.out; omega) (by have := SA.out; omega)).mono ?_); rintro e w3 ⟨rfl, hb3⟩; have U3 : Upd c (h || sumB A k || satH (A k)) wr w3 := Upd.then H2.out hb3; have kp := keep2 U3 s0 s1 n0 (hcS 1); have HU3 := Lib.hid U3; clear U3; have hz3 : w.heap.size < w3.heap.size := by have := HU3.out.size; omega
      (try dsimp only)
      (try simp only [Act.put, nA, nB, nC])
      clear hHeld
      refine hK.out _ _ ?_ (fun hHeld => ?_)
      · exact kp
      clear hK K
      (try simp only [Act.put, nA, nB, nC])
      refine wpAnyM_oneS 5 rfl (by kernel_rfl) (fun K hK => ?_)
      go_simp
      clear hHeld
      refine hK.out _ _ ?_ (fun hHeld => ?_)
      · obtain ⟨e1, e2⟩ := kp; simp [World.cell?_alloc_some, e1, e2]
      clear hK K
      (try simp only [Act.put, nA, nB, nC])
      refine wpAnyM_oneS 6 rfl (by kernel_rfl) (fun K hK => ?_)
      go_simp
      (refine (wadd2_any (sumS A k) (satV (A k)) (sumS A (k + 1)) w3.heap.size 2 _ (by have := HSB.out; omega) (by have := HSB.out; omega) (by have := SA.out; omega) (by have := SA.out; omega) rfl (by have := HSB.out; have := SA.out; simp only [sumS]; omega) (by have := HSB.out; have := SA.out; simp only [sumS]; omega) (by simp) (by simp) (by simp) (by simp)).mono ?_); rintro e w4 ⟨rfl, hb4⟩; have U4 : Upd c (h || sumB A k || satH (A k)) wr w4 := Upd.then (Upd.alloc HU3.out _) hb4; have kp2 := keep2 U4 s0 s1 n0 (hcS 1); have fz0 : w4.frozen? ⟨w.heap.size, 0, none⟩ = false := (U4.frozen RSZ).trans t0; have fz1 : w4.frozen? ⟨w.heap.size, 1, none⟩ = false := (U4.frozen RSZ).trans t1; have HU4 := Lib.hid U4; clear U4; obtain ⟨y0, y1⟩ := kp2
      (try dsimp only)
      (try simp only [Act.put, nA, nB, nC])
      clear hHeld
      refine hK.out _ _ ?_ (fun hHeld => ?_)
      · exact ⟨y0, y1⟩
      clear hK K
      (try simp only [Act.put, nA, nB, nC])
      refine wpAnyM_take 7 (v := ?_) rfl (by kernel_rfl) (fun _ _ _ h => h) (Or.inl ⟨by rfl, ?_⟩) (by assumption) ?_
      rotate_left
      · (intro wx hSw; (try dsimp only at hSw); go_simp; (try with_reducible rfl))
      (try simp only [Act.put, nA, nB, nC])
      refine wpAnyM_take 8 (v := ?_) rfl (by kernel_rfl) (fun _ _ _ h => h) (Or.inl ⟨by rfl, ?_⟩) (by assumption) ?_
      rotate_left
      · (intro wx hSw; (try dsimp only at hSw); go_simp; (try with_reducible rfl))
      (try simp only [Act.put, nA, nB, nC])
      refine wpAnyM_takeW 9 (v := ?_) rfl (by kernel_rfl) (fun _ _ _ h => h) (Or.inl ⟨by rfl, ?_⟩) (.inr (by assumption)) ?_
      rotate_left
      · (intro wx hSw; (try dsimp only at hSw); go_simp; (try with_reducible rfl))
      (try simp only [Act.put, nA, nB, nC])
      refine wpAnyM_one 10 rfl (by kernel_rfl) (fun K hK => ?_)
      go_simp
      refine hK.out _ _ (.inl (by kernel_rfl)) (fun _ => ?_)
      clear hK K
      (try simp only [Act.put, nA, nB, nC])
      refine wpAnyM_done (by kernel_rfl) ?_ _
      go_wp2_with fail
      go_roundw
      case rel =>
        refine ⟨k + 1, by omega, by go_num, ?_⟩
        have U := HU.out.trans HU4.out
        have tc := two_cells y0 y1 (.int .i64 (hi64 (sumS A (k + 1)))) (.int .u64 (lo64 (sumS A (k + 1))))
        refine ⟨?_, tc.1, tc.2, by rw [World.frozen?_setCell, World.frozen?_setCell]; exact fz0, by rw [World.frozen?_setCell, World.frozen?_setCell]; exact fz1, ?_⟩
        · rw [show (h || sumB A (k + 1)) = (h || sumB A k || satH (A k)) from by simp [sumB, Bool.or_assoc]]
          exact (U.setCell (Nat.le_refl _) _).setCell (Nat.le_refl _) _
        · have := HU4.out.size; simp [World.setCell]; omega
      case measure => simp [intOf]; omega
    · have hkn : k = n := by omega
      subst hkn
      have u := R.out.upd
      have sb := sumS_bd A k
      have rc : wr.cell? c = some (.bool (h || sumB A k)) := u.cellc HC.out
      have rf : wr.frozen? c = false := (u.frozen hcb).trans HF.out
      have s0 := R.out.c0
      have s1 := R.out.c1
      have RSZ := R.out.sz
      have HS := Lib.hid sb
      have HU := Lib.hid u
      clear u sb
      go_wp2_with fail
      refine (round_any (sumS A k) 0 _ (by decide) (by decide) (by have := HS.out; omega) (by have := HS.out; omega)).mono ?_; rintro e w5 ⟨rfl, hb5⟩
      have rc5 : w5.cell? c = some (.bool (h || sumB A k)) := (hb5.cell (World.block_lt_of_cell? _ _ rc)).trans rc
      have rf5 : w5.frozen? c = false := (hb5.frozen (World.block_lt_of_cell? _ _ rc)).trans rf
      have s5 : w5.cell? ⟨w.heap.size, 0, none⟩ = some (.int .i64 (hi64 (sumS A k))) := (hb5.cell RSZ).trans s0
      have H5 := Lib.hid hb5
      clear hb5 rc rf s0 s1
      go_wp2_with fail
      refine (end_any c _ (rsh (sumS A k) 0) _ _ rc5 rf5 (fun hn => by rw [hi_neg]; exact rsh_neg _ _ hn)).mono ?_; rintro e w6 ⟨rfl, rfl⟩
      go_wp2_with fail
      go_ret
      rw [rsh_zero]
      exact ⟨rfl, HU.out.trans (Upd.after H5.out (Upd.set c _ _))⟩
end Go.Proofs.Ytgpnopiinogkmaa
/- Plain numbers: Unit's answer has the length One, whatever is given; and when it raises no flag. No program. -/
namespace Go.Proofs.Ytgpnopiinogkmaa
theorem dot4 (A : Nat → Int) : dotS A A 4 = satV (A 0) * satV (A 0) + satV (A 1) * satV (A 1) + satV (A 2) * satV (A 2) + satV (A 3) * satV (A 3) := by
  simp [dotS]
/-- The root of a sum of squares, as a whole number. -/
theorem root_int (S : Int) (h0 : 0 ≤ S) (h1 : S < 340282366920938463463374607431768211456) (R : Int) (hR : ((rootV S.toNat : Nat) : Int) = R) :
    0 ≤ R ∧ (R = 0 ∨ R * R < S + R) ∧ S ≤ R * R + R := by
  obtain ⟨n, rfl⟩ := Int.eq_ofNat_of_zero_le h0
  have e : (2 : Nat) ^ 128 = 340282366920938463463374607431768211456 := by decide
  obtain ⟨a, b⟩ := rootV_spec n (by omega)
  rw [Int.toNat_natCast] at hR
  generalize rootV n = r at *
  subst hR
  refine ⟨Int.natCast_nonneg _, ?_, ?_⟩
  · rcases a with a | a
    · exact .inl (by exact_mod_cast a)
    · exact .inr (by exact_mod_cast a)
  · exact_mod_cast b
theorem sq_le {a B : Int} (hB : 0 ≤ B) (h1 : -B ≤ a) (h2 : a ≤ B) : a * a ≤ B * B := by
  have k1 : 0 ≤ (B - a) * (B + a) := Int.mul_nonneg (by omega) (by omega)
  have e1 : (B - a) * (B + a) = B * B - a * a := by grind
  omega
/-- The first turn: from numbers within Max. -/
theorem uni_first {a0 a1 a2 a3 q0 q1 q2 q3 n R : Int} (hR0 : 0 ≤ R)
    (m0 : -1152921504606846976 ≤ a0 ∧ a0 ≤ 1152921504606846976) (m1 : -1152921504606846976 ≤ a1 ∧ a1 ≤ 1152921504606846976) (m2 : -1152921504606846976 ≤ a2 ∧ a2 ≤ 1152921504606846976) (m3 : -1152921504606846976 ≤ a3 ∧ a3 ≤ 1152921504606846976)
    (hz : ¬ (a0 = 0 ∧ a1 = 0 ∧ a2 = 0 ∧ a3 = 0))
    (r1 : R = 0 ∨ R * R < a0 * a0 + a1 * a1 + a2 * a2 + a3 * a3 + R) (r2 : a0 * a0 + a1 * a1 + a2 * a2 + a3 * a3 ≤ R * R + R)
    (hn : n = if 1152921504606846976 < R then 1152921504606846976 else R) 
    (d0 : q0 = rdiv (a0 * 1073741824) n) (d1 : q1 = rdiv (a1 * 1073741824) n) (d2 : q2 = rdiv (a2 * 1073741824) n) (d3 : q3 = rdiv (a3 * 1073741824) n) :
    0 < n ∧ (-1073741824 ≤ q0 ∧ q0 ≤ 1073741824) ∧ (-1073741824 ≤ q1 ∧ q1 ≤ 1073741824) ∧ (-1073741824 ≤ q2 ∧ q2 ≤ 1073741824) ∧ (-1073741824 ≤ q3 ∧ q3 ≤ 1073741824) ∧
    576460752303423488 ≤ q0 * q0 + q1 * q1 + q2 * q2 + q3 * q3 := by
  have s0 := sq_nonneg a0
  have s1 := sq_nonneg a1
  have s2 := sq_nonneg a2
  have s3 := sq_nonneg a3
  have hR : 1 ≤ R := by
    rcases int_lt_or_ge 0 R with h | h
    · omega
    · exfalso
      obtain rfl : R = 0 := by omega
      have p : ∀ x : Int, x * x = 0 → x = 0 := fun x h => by rcases Int.mul_eq_zero.1 h with h | h <;> exact h
      exact hz ⟨p a0 (by omega), p a1 (by omega), p a2 (by omega), p a3 (by omega)⟩
  have k0 : n ≤ R := by rw [hn]; split <;> omega
  have hn0 : 0 < n := by rw [hn]; split <;> omega
  have le : ∀ a : Int, -1152921504606846976 ≤ a → a ≤ 1152921504606846976 → a * a ≤ R * R + R → -n ≤ a ∧ a ≤ n := fun a h1 h2 h3 => by
    have := abs_le_of_sq hR0 h3
    rw [hn]; split <;> omega
  have l0 := le a0 m0.1 m0.2 (by omega)
  have l1 := le a1 m1.1 m1.2 (by omega)
  have l2 := le a2 m2.1 m2.2 (by omega)
  have l3 := le a3 m3.1 m3.2 (by omega)
  have v0 := rdivU_le (a := a0 * 1073741824) (B := 1073741824) hn0 (by omega) (by omega)
  have v1 := rdivU_le (a := a1 * 1073741824) (B := 1073741824) hn0 (by omega) (by omega)
  have v2 := rdivU_le (a := a2 * 1073741824) (B := 1073741824) hn0 (by omega) (by omega)
  have v3 := rdivU_le (a := a3 * 1073741824) (B := 1073741824) hn0 (by omega) (by omega)
  have u0 := rdivU_err (a0 * 1073741824) n hn0
  have u1 := rdivU_err (a1 * 1073741824) n hn0
  have u2 := rdivU_err (a2 * 1073741824) n hn0
  have u3 := rdivU_err (a3 * 1073741824) n hn0
  rw [← d0] at u0 v0
  rw [← d1] at u1 v1
  rw [← d2] at u2 v2
  rw [← d3] at u3 v3
  refine ⟨hn0, v0, v1, v2, v3, ?_⟩
  have st := (uni_step hn0 hR0 u0 u1 u2 u3 r2).1
  clear u0 u1 u2 u3 d0 d1 d2 d3 v0 v1 v2 v3 l0 l1 l2 l3 le m0 m1 m2 m3 hz s0 s1 s2 s3
  generalize q0 * q0 + q1 * q1 + q2 * q2 + q3 * q3 = T at *
  generalize a0 * a0 + a1 * a1 + a2 * a2 + a3 * a3 = S at *
  rcases int_lt_or_ge T 576460752303423488 with h | h
  · exfalso
    have h1 : T * (n * n) ≤ 576460752303423487 * (n * n) := Int.mul_le_mul_of_nonneg_right (by omega) (sq_nonneg n)
    by_cases hc : 1152921504606846976 < R
    · rw [if_pos hc] at hn
      subst hn
      have h2 : 1152921504606846977 * R ≤ R * R := Int.mul_le_mul_of_nonneg_right (by omega) hR0
      omega
    · rw [if_neg hc] at hn
      obtain rfl : R = n := hn.symm
      have h2 : 0 ≤ (R - 2) * (R - 2) := sq_nonneg _
      have e2 : (R - 2) * (R - 2) = R * R - 4 * R + 4 := by grind
      have h3 : 1 * 1 ≤ R * R := Int.mul_le_mul hR hR (by omega) hR0
      omega
  · exact h
/-- The second turn. -/
theorem uni_second {q0 q1 q2 q3 t0 t1 t2 t3 R : Int} (hR0 : 0 ≤ R)
    (m0 : -1073741824 ≤ q0 ∧ q0 ≤ 1073741824) (m1 : -1073741824 ≤ q1 ∧ q1 ≤ 1073741824) (m2 : -1073741824 ≤ q2 ∧ q2 ≤ 1073741824) (m3 : -1073741824 ≤ q3 ∧ q3 ≤ 1073741824)
    (hT : 576460752303423488 ≤ q0 * q0 + q1 * q1 + q2 * q2 + q3 * q3)
    (r1 : R = 0 ∨ R * R < q0 * q0 + q1 * q1 + q2 * q2 + q3 * q3 + R) (r2 : q0 * q0 + q1 * q1 + q2 * q2 + q3 * q3 ≤ R * R + R)
    (d0 : t0 = rdiv (q0 * 1073741824) R) (d1 : t1 = rdiv (q1 * 1073741824) R) (d2 : t2 = rdiv (q2 * 1073741824) R) (d3 : t3 = rdiv (q3 * 1073741824) R) :
    (0 < R ∧ R ≤ 2147483648) ∧ (-1073741824 ≤ t0 ∧ t0 ≤ 1073741824) ∧ (-1073741824 ≤ t1 ∧ t1 ≤ 1073741824) ∧ (-1073741824 ≤ t2 ∧ t2 ≤ 1073741824) ∧ (-1073741824 ≤ t3 ∧ t3 ≤ 1073741824) ∧
    -4294967296 ≤ t0 * t0 + t1 * t1 + t2 * t2 + t3 * t3 - 1152921504606846976 ∧ t0 * t0 + t1 * t1 + t2 * t2 + t3 * t3 - 1152921504606846976 ≤ 4294967296 := by
  have s0 := sq_nonneg q0
  have s1 := sq_nonneg q1
  have s2 := sq_nonneg q2
  have s3 := sq_nonneg q3
  have w0 := sq_le (by decide) m0.1 m0.2
  have w1 := sq_le (by decide) m1.1 m1.2
  have w2 := sq_le (by decide) m2.1 m2.2
  have w3 := sq_le (by decide) m3.1 m3.2
  have lo : 759250124 < R := by
    rcases int_lt_or_ge 759250124 R with h | h
    · exact h
    · exfalso
      have := sq_le (a := R) (B := 759250124) (by decide) (by omega) h
      omega
  have hi : R ≤ 2147483648 := by
    rcases int_lt_or_ge 2147483648 R with h | h
    · exfalso
      have h2 : 2147483649 * R ≤ R * R := Int.mul_le_mul_of_nonneg_right (by omega) hR0
      omega
    · exact h
  have hn0 : 0 < R := by omega
  have l0 := abs_le_of_sq (a := q0) hR0 (by omega)
  have l1 := abs_le_of_sq (a := q1) hR0 (by omega)
  have l2 := abs_le_of_sq (a := q2) hR0 (by omega)
  have l3 := abs_le_of_sq (a := q3) hR0 (by omega)
  have v0 := rdivU_le (a := q0 * 1073741824) (B := 1073741824) hn0 (by omega) (by omega)
  have v1 := rdivU_le (a := q1 * 1073741824) (B := 1073741824) hn0 (by omega) (by omega)
  have v2 := rdivU_le (a := q2 * 1073741824) (B := 1073741824) hn0 (by omega) (by omega)
  have v3 := rdivU_le (a := q3 * 1073741824) (B := 1073741824) hn0 (by omega) (by omega)
  have u0 := rdivU_err (q0 * 1073741824) R hn0
  have u1 := rdivU_err (q1 * 1073741824) R hn0
  have u2 := rdivU_err (q2 * 1073741824) R hn0
  have u3 := rdivU_err (q3 * 1073741824) R hn0
  rw [← d0] at u0 v0
  rw [← d1] at u1 v1
  rw [← d2] at u2 v2
  rw [← d3] at u3 v3
  refine ⟨⟨hn0, hi⟩, v0, v1, v2, v3, ?_⟩
  obtain ⟨st1, st2⟩ := uni_step hn0 hR0 u0 u1 u2 u3 r2
  clear u0 u1 u2 u3 d0 d1 d2 d3 v0 v1 v2 v3 l0 l1 l2 l3 m0 m1 m2 m3 s0 s1 s2 s3 w0 w1 w2 w3
  generalize t0 * t0 + t1 * t1 + t2 * t2 + t3 * t3 = X at *
  generalize q0 * q0 + q1 * q1 + q2 * q2 + q3 * q3 = T at *
  have hl : 759250125 * R ≤ R * R := Int.mul_le_mul_of_nonneg_right (by omega) hR0
  have r1' : R * R < T + R := by omega
  constructor
  · rcases int_lt_or_ge (X - 1152921504606846976) (-4294967296) with h | h
    · exfalso
      have h1 : X * (R * R) ≤ (1152921504606846976 - 4294967297) * (R * R) := Int.mul_le_mul_of_nonneg_right (by omega) (sq_nonneg R)
      omega
    · exact h
  · rcases int_lt_or_ge 4294967296 (X - 1152921504606846976) with h | h
    · exfalso
      have h1 : (1152921504606846976 + 4294967297) * (R * R) ≤ X * (R * R) := Int.mul_le_mul_of_nonneg_right (by omega) (sq_nonneg R)
      omega
    · exact h
/-- One turn as numbers, where no clamp comes up. -/
theorem hyp_root (A : Nat → Int) (hA : ∀ i, i < 4 → -1152921504606846976 ≤ A i ∧ A i ≤ 1152921504606846976) (R : Int) (hR : ((rootV (dotS A A 4).toNat : Nat) : Int) = R) :
    0 ≤ R ∧ (R = 0 ∨ R * R < A 0 * A 0 + A 1 * A 1 + A 2 * A 2 + A 3 * A 3 + R) ∧ A 0 * A 0 + A 1 * A 1 + A 2 * A 2 + A 3 * A 3 ≤ R * R + R ∧ hypV A 4 = if 1152921504606846976 < R then 1152921504606846976 else R := by
  have e : ∀ i, i < 4 → satV (A i) = A i := fun i hi => satV_id (hA i hi).1 (hA i hi).2
  have hd : dotS A A 4 = A 0 * A 0 + A 1 * A 1 + A 2 * A 2 + A 3 * A 3 := by
    rw [dot4, e 0 (by decide), e 1 (by decide), e 2 (by decide), e 3 (by decide)]
  have w : ∀ i, i < 4 → 0 ≤ A i * A i ∧ A i * A i ≤ 1152921504606846976 * 1152921504606846976 := fun i hi => ⟨sq_nonneg _, sq_le (by decide) (hA i hi).1 (hA i hi).2⟩
  have w0 := w 0 (by decide)
  have w1 := w 1 (by decide)
  have w2 := w 2 (by decide)
  have w3 := w 3 (by decide)
  obtain ⟨a, b, c⟩ := root_int (dotS A A 4) (by rw [hd]; omega) (by rw [hd]; omega) R hR
  rw [hd] at b c
  refine ⟨a, b, c, ?_⟩
  unfold hypV
  rw [hR]
  unfold satV clampV
  rw [if_neg (by decide), if_neg (by omega)]
theorem divV_q (a n : Int) (ha : -1152921504606846976 ≤ a ∧ a ≤ 1152921504606846976) (hn : 0 < n ∧ n ≤ 1152921504606846976) (h : -1152921504606846976 ≤ rdiv (a * 1073741824) n ∧ rdiv (a * 1073741824) n ≤ 1152921504606846976) :
    divV a n 30 = rdiv (a * 1073741824) n ∧ divH a n 30 = false := by
  unfold divV divH byV byH
  rw [satV_id ha.1 ha.2, satV_id (a := n) (by omega) hn.2]
  rw [show ((2 : Int) ^ (30 : Int).toNat) = 1073741824 from rfl]
  rw [if_neg (by decide), if_neg (by omega)]
  refine ⟨satV_id h.1 h.2, ?_⟩
  rw [satH_no ha.1 ha.2, satH_no (a := n) (by omega) hn.2, satH_no h.1 h.2]
  simp; omega
theorem zer4_no {A : Nat → Int} (h : ¬ zer4 A = true) : ¬ (A 0 = 0 ∧ A 1 = 0 ∧ A 2 = 0 ∧ A 3 = 0) := by
  rintro ⟨a, b, c, d⟩
  exact h (by simp [zer4, a, b, c, d])
theorem wide_of {x : Int} (h : -1073741824 ≤ x ∧ x ≤ 1073741824) : -1152921504606846976 ≤ x ∧ x ≤ 1152921504606846976 := by omega
theorem wide_16 {x : Int} (h : -1073741824 ≤ x ∧ x ≤ 1073741824) : -1073741840 ≤ x ∧ x ≤ 1073741840 := by omega
/-- The first turn, once more. -/
theorem uni_one (B : Nat → Int) (hB : ∀ i, i < 4 → -1152921504606846976 ≤ B i ∧ B i ≤ 1152921504606846976) (hz : ¬ (B 0 = 0 ∧ B 1 = 0 ∧ B 2 = 0 ∧ B 3 = 0)) :
    (∀ i, i < 4 → -1073741824 ≤ uniT B i ∧ uniT B i ≤ 1073741824) ∧ 576460752303423488 ≤ uniT B 0 * uniT B 0 + uniT B 1 * uniT B 1 + uniT B 2 * uniT B 2 + uniT B 3 * uniT B 3 ∧
    (uniTH B = decide (1152921504606846976 < ((rootV (dotS B B 4).toNat : Nat) : Int))) := by
  obtain ⟨R, hR⟩ : ∃ R : Int, ((rootV (dotS B B 4).toNat : Nat) : Int) = R := ⟨_, rfl⟩
  obtain ⟨a1, a2, a3, a4⟩ := hyp_root B hB R hR
  obtain ⟨n, hn⟩ : ∃ n, hypV B 4 = n := ⟨_, rfl⟩
  rw [hn] at a4
  obtain ⟨n0, f0, f1, f2, f3, fT⟩ := uni_first a1 (hB 0 (by decide)) (hB 1 (by decide)) (hB 2 (by decide)) (hB 3 (by decide)) hz a2 a3 a4 rfl rfl rfl rfl
  have n1 : n ≤ 1152921504606846976 := by rw [a4]; clear a2 a3 f0 f1 f2 f3 fT; split <;> omega
  have f : ∀ i, i < 4 → -1073741824 ≤ rdiv (B i * 1073741824) n ∧ rdiv (B i * 1073741824) n ≤ 1073741824 := fun i hi => by
    obtain rfl | rfl | rfl | rfl : i = 0 ∨ i = 1 ∨ i = 2 ∨ i = 3 := by clear a2 a3 a4 f0 f1 f2 f3 fT; omega
    · exact f0
    · exact f1
    · exact f2
    · exact f3
  have e : ∀ i, i < 4 → uniT B i = rdiv (B i * 1073741824) n ∧ divH (B i) n 30 = false := fun i hi => by
    unfold uniT
    rw [hn]
    exact divV_q _ _ (hB i hi) ⟨n0, n1⟩ (wide_of (f i hi))
  refine ⟨fun i hi => by rw [(e i hi).1]; exact f i hi, ?_, ?_⟩
  · rw [(e 0 (by decide)).1, (e 1 (by decide)).1, (e 2 (by decide)).1, (e 3 (by decide)).1]; exact fT
  · have hs : ∀ i, i < 4 → satH (B i) = false := fun i hi => satH_no (hB i hi).1 (hB i hi).2
    unfold uniTH hypH
    rw [hn, hR]
    simp only [orB, hs 0 (by decide), hs 1 (by decide), hs 2 (by decide), hs 3 (by decide), (e 0 (by decide)).2, (e 1 (by decide)).2, (e 2 (by decide)).2, (e 3 (by decide)).2, Bool.or_false, Bool.false_or]
    clear a2 a3 a4 f0 f1 f2 f3 fT e f hs hB hz
    unfold satH clampH
    rw [Bool.eq_iff_iff]; simp; omega
/-- The second turn, once more. -/
theorem uni_two (T : Nat → Int) (q : ∀ i, i < 4 → -1073741824 ≤ T i ∧ T i ≤ 1073741824) (hT : 576460752303423488 ≤ T 0 * T 0 + T 1 * T 1 + T 2 * T 2 + T 3 * T 3) :
    (∀ i, i < 4 → -1073741824 ≤ uniT T i ∧ uniT T i ≤ 1073741824) ∧ UnitQ (uniT T) ∧ uniTH T = false := by
  obtain ⟨R2, hR2⟩ : ∃ R : Int, ((rootV (dotS T T 4).toNat : Nat) : Int) = R := ⟨_, rfl⟩
  obtain ⟨b1, b2, b3, b4⟩ := hyp_root T (fun i hi => wide_of (q i hi)) R2 hR2
  obtain ⟨⟨g0, g1⟩, t0, t1, t2, t3, tS1, tS2⟩ := uni_second b1 (q 0 (by decide)) (q 1 (by decide)) (q 2 (by decide)) (q 3 (by decide)) hT b2 b3 rfl rfl rfl rfl
  have g2 : R2 ≤ 1152921504606846976 := by clear b2 b3 b4 t0 t1 t2 t3 tS1 tS2 hT; omega
  have g3 : ¬ 1152921504606846976 < R2 := by clear b2 b3 b4 t0 t1 t2 t3 tS1 tS2 hT; omega
  rw [if_neg g3] at b4
  have g : ∀ i, i < 4 → -1073741824 ≤ rdiv (T i * 1073741824) R2 ∧ rdiv (T i * 1073741824) R2 ≤ 1073741824 := fun i hi => by
    obtain rfl | rfl | rfl | rfl : i = 0 ∨ i = 1 ∨ i = 2 ∨ i = 3 := by clear b2 b3 b4 t0 t1 t2 t3 tS1 tS2 hT; omega
    · exact t0
    · exact t1
    · exact t2
    · exact t3
  have e : ∀ i, i < 4 → uniT T i = rdiv (T i * 1073741824) R2 ∧ divH (T i) R2 30 = false := fun i hi => by
    unfold uniT
    rw [b4]
    exact divV_q _ _ (wide_of (q i hi)) ⟨g0, g2⟩ (wide_of (g i hi))
  refine ⟨fun i hi => by rw [(e i hi).1]; exact g i hi, ⟨fun i hi => by rw [(e i hi).1]; exact wide_16 (g i hi), ?_, ?_⟩, ?_⟩
  · rw [(e 0 (by decide)).1, (e 1 (by decide)).1, (e 2 (by decide)).1, (e 3 (by decide)).1]; exact tS1
  · rw [(e 0 (by decide)).1, (e 1 (by decide)).1, (e 2 (by decide)).1, (e 3 (by decide)).1]; exact tS2
  · have hs : ∀ i, i < 4 → satH (T i) = false := fun i hi => satH_no (wide_of (q i hi)).1 (wide_of (q i hi)).2
    unfold uniTH hypH
    rw [b4, hR2]
    simp only [orB, hs 0 (by decide), hs 1 (by decide), hs 2 (by decide), hs 3 (by decide), (e 0 (by decide)).2, (e 1 (by decide)).2, (e 2 (by decide)).2, (e 3 (by decide)).2, Bool.or_false, Bool.false_or]
    exact satH_no (by clear b2 b3 b4 t0 t1 t2 t3 tS1 tS2 hT; omega) g2
/-- Both turns. -/
theorem uni_both (B : Nat → Int) (hB : ∀ i, i < 4 → -1152921504606846976 ≤ B i ∧ B i ≤ 1152921504606846976) (hz : ¬ (B 0 = 0 ∧ B 1 = 0 ∧ B 2 = 0 ∧ B 3 = 0)) :
    UnitQ (uniT (uniT B)) ∧ (uniTH B = decide (1152921504606846976 < ((rootV (dotS B B 4).toNat : Nat) : Int))) ∧ uniTH (uniT B) = false := by
  obtain ⟨q, hT, h1⟩ := uni_one B hB hz
  obtain ⟨_, u, h2⟩ := uni_two (uniT B) q hT
  exact ⟨u, h1, h2⟩
theorem unit_oneQ : UnitQ oneQ := by
  refine ⟨fun i _ => ?_, by decide, by decide⟩
  unfold oneQ; split <;> omega
/-- Unit's answer is good, whatever is given. -/
theorem unit_good (A : Nat → Int) : UnitQ (uniV A) := by
  unfold uniV
  by_cases h : zer4 (satA A) = true
  · rw [if_pos h]; exact unit_oneQ
  · rw [if_neg h]
    exact (uni_both (satA A) (fun i _ => satV_bd _) (zer4_no h)).1
/-- Of numbers up to 2^59 Unit raises no flag. -/
theorem unit_calm (A : Nat → Int) (hA : ∀ i, i < 4 → -576460752303423488 ≤ A i ∧ A i ≤ 576460752303423488) : uniH A = false := by
  have hs : ∀ i, i < 4 → satH (A i) = false := fun i hi => satH_no (by have := hA i hi; omega) (by have := hA i hi; omega)
  have hv : ∀ i, i < 4 → satA A i = A i := fun i hi => satV_id (by have := hA i hi; omega) (by have := hA i hi; omega)
  unfold uniH
  simp only [orB, hs 0 (by decide), hs 1 (by decide), hs 2 (by decide), hs 3 (by decide), Bool.or_false, Bool.false_or]
  by_cases h : zer4 (satA A) = true
  · rw [if_pos h]
  · rw [if_neg h]
    obtain ⟨_, h4, h5⟩ := uni_both (satA A) (fun i _ => satV_bd _) (zer4_no h)
    rw [h4, h5]
    obtain ⟨R, hR⟩ : ∃ R : Int, ((rootV (dotS (satA A) (satA A) 4).toNat : Nat) : Int) = R := ⟨_, rfl⟩
    obtain ⟨a1, a2, a3, _⟩ := hyp_root (satA A) (fun i _ => satV_bd _) R hR
    rw [hR]
    rw [hv 0 (by decide), hv 1 (by decide), hv 2 (by decide), hv 3 (by decide)] at a2
    have w : ∀ i, i < 4 → A i * A i ≤ 576460752303423488 * 576460752303423488 := fun i hi => sq_le (by decide) (hA i hi).1 (hA i hi).2
    have w0 := w 0 (by decide)
    have w1 := w 1 (by decide)
    have w2 := w 2 (by decide)
    have w3 := w 3 (by decide)
    have : ¬ 1152921504606846976 < R := by
      intro hc
      have h2 : 1152921504606846977 * R ≤ R * R := Int.mul_le_mul_of_nonneg_right (by omega) a1
      omega
    simp; omega
end Go.Proofs.Ytgpnopiinogkmaa
