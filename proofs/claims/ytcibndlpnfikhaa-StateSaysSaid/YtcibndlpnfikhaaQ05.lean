/- Contracts of the program's functions and plain laws, part 5: they hold for all arguments. -/
import Derived.Test.YtcibndlpnfikhaaQ04
/- Contract of state.unit. -/
namespace Go.Proofs.Ytcibndlpnfikhaa
open Go.RowKit
set_option maxRecDepth 100000
theorem fabs_any (a : Int) (w : World) : Calls Try.prog 30 #[.int .i64 a] w fun e w' => e = .returned (.int .i64 (absV a)) ∧ w = w' := by
  by_cases ha : 1152921504606846976 ≤ a
  · have e : absV a = 1152921504606846976 := by unfold absV; rw [if_pos (.inl ha)]
    have d1 : decide (1152921504606846976 ≤ a) = true := by simpa using ha
    have E := Lib.hid e
    clear e
    go_enter Try.func30, Try.ntmps30
    go_wp2_with fail
    go_ret
    exact ⟨retI E.out.symm, rfl⟩
  · have d1 : decide (1152921504606846976 ≤ a) = false := by simpa using ha
    by_cases hb : a ≤ -1152921504606846976
    · have e : absV a = 1152921504606846976 := by unfold absV; rw [if_pos (.inr hb)]
      have d2 : decide (a ≤ -1152921504606846976) = true := by simpa using hb
      have E := Lib.hid e
      clear e
      go_enter Try.func30, Try.ntmps30
      go_wp2_with fail
      go_ret
      exact ⟨retI E.out.symm, rfl⟩
    · have d2 : decide (a ≤ -1152921504606846976) = false := by simpa using hb
      by_cases hz : a < 0
      · have e : absV a = -a := by unfold absV; rw [if_neg (by omega), if_pos hz]
        have d3 : decide (a < 0) = true := by simpa using hz
        have E := Lib.hid e
        clear e
        go_enter Try.func30, Try.ntmps30
        go_wp2_with fail
        go_ret
        exact ⟨retI E.out.symm, rfl⟩
      · have e : absV a = a := by unfold absV; rw [if_neg (by omega), if_neg hz]
        have d3 : decide (a < 0) = false := by simpa using hz
        have E := Lib.hid e
        clear e
        go_enter Try.func30, Try.ntmps30
        go_wp2_with fail
        go_ret
        exact ⟨retI E.out.symm, rfl⟩
/-- The cells of n numbers of 128 bits. -/
def wcells (n : Nat) (L : Nat → Int) : List Value := (List.range n).flatMap fun i => [.int .i64 (hi64 (L i)), .int .u64 (lo64 (L i))]
theorem wcells_succ (n : Nat) (L : Nat → Int) : wcells (n + 1) L = wcells n L ++ [.int .i64 (hi64 (L n)), .int .u64 (lo64 (L n))] := by
  simp [wcells, List.range_succ, List.flatMap_append]
def OwnW (w : World) (B : Nat) (v : Value) (n : Nat) (L : Nat → Int) : Prop := w.ownsRow B 69 2 v n (wcells n L)
theorem OwnW.nil (w : World) (B : Nat) (L : Nat → Int) : OwnW w B (.slice none 0 0) 0 L := World.ownsRow_nil w B 69 2
theorem OwnW.below {w w' : World} {B : Nat} {v : Value} {n : Nat} {L : Nat → Int} (h : OwnW w B v n L) (b : Below w.heap.size w w') : OwnW w' B v n L := by
  refine ⟨h.1, ?_⟩
  rcases h.2 with hn | ⟨g, cap, cur, rfl, hb, hgg, rest⟩
  · exact .inl hn
  · refine .inr ⟨g, cap, cur, rfl, hb, ?_, rest⟩
    rw [b.block g (Array.getElem?_eq_some_iff.1 hgg).1]
    exact hgg
theorem OwnW.alloc {w : World} {B : Nat} {v : Value} {n : Nat} {L : Nat → Int} (h : OwnW w B v n L) (o : Obj) : OwnW (w.alloc o) B v n L := h.below ((Below.refl _ _).alloc (Nat.le_refl _) o)
/-- Four of them, as cells. -/
theorem OwnW.four {w : World} {B : Nat} {v : Value} {L : Nat → Int} (h : OwnW w B v 4 L) :
    ∃ g cp, v = .slice (some ⟨g, 0, none⟩) 4 cp ∧ ∀ i, i < 4 → w.cell? ⟨g, 2 * i, none⟩ = some (.int .i64 (hi64 (L i))) ∧ w.cell? ⟨g, 2 * i + 1, none⟩ = some (.int .u64 (lo64 (L i))) := by
  rcases h.2 with ⟨_, h0⟩ | ⟨g, cap, cur, rfl, hb, hgg, h1, h2, h3, h4⟩
  · omega
  · refine ⟨g, cap, rfl, fun i hi => ?_⟩
    have hc : ∀ j v, (wcells 4 L)[j]? = some v → w.cell? ⟨g, j, none⟩ = some v := fun j v hj => by
      rw [cell_of_row w g j cur 69 (0, 0) hgg]
      rw [← h4, List.getElem?_take] at hj
      split at hj
      · simpa using hj
      · cases hj
    obtain rfl | rfl | rfl | rfl : i = 0 ∨ i = 1 ∨ i = 2 ∨ i = 3 := by omega
    all_goals exact ⟨hc _ _ rfl, hc _ _ rfl⟩
theorem info_W' : ∃ i, Try.prog.info? 69 = some i ∧ i.zero = some (.agg #[.int .i64 0, .int .u64 0]) ∧ i.size = 2 ∧ i.bytes = 16 := by
  have h : (Try.prog.info? 69).map (fun i => (i.zero, i.size, i.bytes)) = some (some (.agg #[.int .i64 0, .int .u64 0]), 2, 16) := by kernel_rfl
  cases e : Try.prog.info? 69 with
  | none => rw [e] at h; cases h
  | some i => rw [e] at h; simp at h; exact ⟨i, rfl, h.1, h.2.1, h.2.2⟩
theorem wpList_appW {w : World} {ops : Array Oper} {rest : List Oper} {o : Oper} {a : Act} {Q : Exit → Act → World → Prop} (hgd : o.guard = none) (s x : Operand)
    (ho : o.op = .call { callee := .builtin .append, args := #[s, x], argTypes := #[65, 65] })
    (B : Nat) {v : Value} {n : Nat} {L : Nat → Int} (hs : a.eval s = v) (hown : OwnW w B v n L) (nb c : Nat) (hx : a.eval x = .slice (some ⟨nb, 0, none⟩) 1 c)
    (hy : w.cell? ⟨nb, 0, none⟩ = some (.int .i64 (hi64 (L n))) ∧ w.cell? ⟨nb, 1, none⟩ = some (.int .u64 (lo64 (L n)))) (hn : n ≤ 1000000) (hB : B ≤ w.heap.size) (H : Nat) (hH : w.heap.size = H)
    (h : ∀ g cap w', OwnW w' B (.slice (some ⟨g, 0, none⟩) (n + 1) cap) (n + 1) L → w.grownBy w' v.ownBlock → (v.ownBlock = some g ∨ g = H) → g < w'.heap.size → wpList Try.prog ops Q rest (a.put o.dst (.slice (some ⟨g, 0, none⟩) (n + 1) cap)) w') : wpList Try.prog ops Q (o :: rest) a w := by
  obtain ⟨i, hi, hz, hsz, hb⟩ := info_W'
  refine wpList_append_lies w hgd s x 65 ho B 69 i _ 2 16 Try.underlying65 hi hz hsz hb rfl (by decide) v n (wcells n L) hs hown ⟨nb, 0, none⟩ 1 c [.int .i64 (hi64 (L n)), .int .u64 (lo64 (L n))] hx rfl
    (fun j u hu => ?_) (fun u hu => ?_) (by decide) (by unfold maxLen; omega) (by omega) hB H hH (fun g cap w' h1 h2 h3 h4 => h g cap w' (by unfold OwnW; rw [wcells_succ]; exact h1) h2 h3 h4)
  · have hj : j < 2 := (List.getElem?_eq_some_iff.1 hu).1
    rcases (show j = 0 ∨ j = 1 by omega) with h | h
    · rw [h] at hu ⊢; simp at hu; rw [← hu]; exact hy.1
    · rw [h] at hu ⊢; simp at hu; rw [← hu]; exact hy.2
  · simp at hu; rcases hu with rfl | rfl <;> rfl
open Go in
/-- A number of an array that came as a value. -/
theorem run_index_vec {n : Nat} {T : TypeId} (hT : Try.prog.underlying T = some (.array n 2)) {o : Oper} {ev : Operand → Value} {w : World} {f : Nat → Int} (x y : Operand) (ho : o.op = .index T x y) (hx : ev x = .agg (arrv n f)) (k : Nat)
    (hy : ev y = .int .i64 (k : Int)) (hk : k < n) : (execOp ev o).run Try.prog w = .ok (.value (.int .i64 (f k))) w := by
  have e2 : (arrv n f)[k]? = some (.int .i64 (f k)) := arrv_get hk
  unfold execOp
  simp only [ho, hx, hy, Sem.run_bind]
  simp [Instr.index, run_underlying hT, asIntOf, hk, go_sem, part, e2]
theorem OwnW.blk {w : World} {B : Nat} {v : Value} {n : Nat} {L : Nat → Int} (h : OwnW w B v n L) {g : Nat} (e : v.ownBlock = some g) : B ≤ g := by
  rcases h.2 with ⟨rfl, _⟩ | ⟨g', cap, cur, rfl, hb, _⟩
  · cases e
  · simp [Value.ownBlock] at e; omega
structure UnR (A : Nat → Int) (k : Nat) (v : Value) (w wr : World) : Prop where
  ok : inQs A k = true
  own : OwnW wr (w.heap.size + 1) v k (sqA A)
  below : Below w.heap.size w wr
  sz : w.heap.size < wr.heap.size
set_option maxHeartbeats 2000000 in
theorem sunit_any (A : Nat → Int) (w : World) : Calls Try.prog 19 #[.agg (arrv 4 A)] w fun e w' => e = .returned (.bool (unitB A)) ∧ Below w.heap.size w w' := by
  have P0 : Blk (w.alloc (.cells (arrv 4 A) 28)) w.heap.size 28 4 A := Blk.new w _ 4 _
  have B0 := Lib.hid (show Below w.heap.size w (w.alloc (.cells (arrv 4 A) 28)) by (repeat (first | with_reducible exact Below.refl _ _ | with_reducible apply Below.drew | (with_reducible refine below_drewN ?_ _) | (with_reducible refine Below.alloc ?_ (by (try simp) <;> omega) _) | (with_reducible refine Below.setCell ?_ (by (try simp) <;> omega) _))))
  go_enter Try.func19, Try.ntmps19
  go_upto_region 2 with fail
  generalize w.alloc (.cells (arrv 4 A) 28) = W0 at *
  have hz0 := Lib.hid P0.lt
  go_wp2_with (refine wpList_load_row rfl 28 _ rfl (w.heap.size) rfl 28 _ (0, 0) _ (P0) Try.underlying28 rfl (iqt.trans (by rw [arrv_size])) ?_)
  go_loopw [3, 11] (fun v i wr => ∃ k : Nat, k ≤ 4 ∧ i = .int .i64 k ∧ Hid (UnR A k v w wr)) (fun _ i _ => 4 - (intOf i).toNat)
  case atStart => exact ⟨0, by omega, rfl, ⟨rfl, OwnW.nil _ _ _, B0.out, hz0.out⟩⟩
  case round =>
    obtain ⟨k, hk, rfl, R⟩ := hrel
    clear P0
    by_cases hlt : k < 4
    · have d1 : decide ((k : Int) < 4) = true := by simp; omega
      go_upto_region 4 with fail
      refine wp_region_lit ?_
      refine wpList_val (v := ?_) rfl ?_ ?_
      rotate_left
      · refine Eq.trans (run_index_vec Try.underlying28 (.tmp 10) (.tmp 11) (by rfl) (by rfl) k (by rfl) hlt) ?_; with_reducible rfl
      (try simp only [Act.put, List.setIfInBounds_toArray, List.set_cons_zero, List.set_cons_succ])
      refine wpList_val (v := ?_) rfl ?_ ?_
      rotate_left
      · (go_simp; (try (first | with_reducible rfl | (constructor <;> with_reducible rfl))))
      (try simp only [Act.put, List.setIfInBounds_toArray, List.set_cons_zero, List.set_cons_succ])
      refine wpList_nil ?_
      have hin := absV_in (A k)
      by_cases hq : inQ (A k) = true
      · rw [hq] at hin
        have d2 : decide (1073741840 < absV (A k)) = false := hin
        have hb := sq_bd hq
        have MU := Lib.hid (fun w => mul_any (A k) (A k) (sqA A k) w (by simp only [inQ, Bool.and_eq_true, decide_eq_true_eq] at hq; omega) (by simp only [inQ, Bool.and_eq_true, decide_eq_true_eq] at hq; omega) (by simp only [inQ, Bool.and_eq_true, decide_eq_true_eq] at hq; omega) (by simp only [inQ, Bool.and_eq_true, decide_eq_true_eq] at hq; omega) rfl (by unfold sqA; omega) (by unfold sqA; omega))
        have OK : Hid (inQs A (k + 1) = true) := Lib.hid (by simp only [inQs]; rw [R.out.ok, hq]; rfl)
        clear hin hq hb
        go_wp2_with fail
        refine (fabs_any (A k) _).mono ?_; rintro e w' ⟨rfl, rfl⟩
        go_wp2_with fail
        refine (MU.out _).mono ?_; rintro e w2 ⟨rfl, hb2⟩
        have O2 := Lib.hid ((R.out.own.below hb2).alloc (.cells #[.int .i64 (hi64 (sqA A k)), .int .u64 (lo64 (sqA A k))] 69))
        have B2 := Lib.hid ((Below.after R.out.below hb2).alloc (by have := hb2.size; have := R.out.sz; omega) (.cells #[.int .i64 (hi64 (sqA A k)), .int .u64 (lo64 (sqA A k))] 69))
        have Z2 : w.heap.size < w2.heap.size := by have := hb2.size; have := R.out.sz; omega
        clear hb2 MU
        go_wp2_with (refine wpList_appW rfl (.tmp 17) (.tmp 21) rfl (w.heap.size + 1) rfl O2.out w2.heap.size 1 rfl ⟨by simp [go_sem], by simp [go_sem]⟩ (by omega) (by simp; omega) _ rfl ?_; intro g cp w3 hO3 hg3 _ hlt3)
        have B3 := Lib.hid (below_grown B2.out hg3 (fun g e => by have := O2.out.blk e; omega) (by simp; omega))
        have S3 : Hid (UnR A (k + 1) (.slice (some ⟨g, 0, none⟩) (k + 1) cp) w w3) := Lib.hid ⟨OK.out, hO3, B3.out, by have := hg3.size; simp at this; omega⟩
        clear hO3 hg3 hlt3 O2 B2 B3 OK R
        go_roundw
        case rel => exact ⟨k + 1, by omega, by go_num, S3.out⟩
        case measure => simp [intOf]; omega
      · have hq2 : inQ (A k) = false := by simpa using hq
        rw [hq2] at hin
        have d2 : decide (1073741840 < absV (A k)) = true := hin
        have NO := Lib.hid (unitB_no (A := A) (n := k + 1) (by simp only [inQs]; rw [hq2, Bool.and_false]) (by omega))
        clear hin hq hq2
        go_wp2_with fail
        refine (fabs_any (A k) _).mono ?_; rintro e w' ⟨rfl, rfl⟩
        go_wp2_with fail
        go_ret
        exact ⟨by rw [NO.out]; rfl, R.out.below⟩
    · have hk4 : k = 4 := by omega
      subst hk4
      rw [show ((4 : Nat) : Int) = 4 from rfl]
      have hq := R.out.ok
      obtain ⟨g, cp, rfl, hc⟩ := R.out.own.four
      have q0 := sqA_bd hq 0 (by decide)
      have q1 := sqA_bd hq 1 (by decide)
      have q2 := sqA_bd hq 2 (by decide)
      have q3 := sqA_bd hq 3 (by decide)
      obtain ⟨S, hS⟩ : ∃ S, sum4 A = S := ⟨_, rfl⟩
      have hS0 : 0 ≤ S ∧ S ≤ 4611686155866342400 := by rw [← hS]; unfold sum4; omega
      have AD := Lib.hid (wadd4_any (sqA A 0) (sqA A 1) (sqA A 2) (sqA A 3) (sqA A 0 + sqA A 1) (sqA A 0 + sqA A 1 + sqA A 2) S g cp wr (by unfold sqA; omega) (by unfold sqA; omega) (by unfold sqA; omega) (by unfold sqA; omega) rfl rfl (by rw [← hS]; rfl)
        (hc 0 (by decide)).1 (hc 0 (by decide)).2 (hc 1 (by decide)).1 (hc 1 (by decide)).2 (hc 2 (by decide)).1 (hc 2 (by decide)).2 (hc 3 (by decide)).1 (hc 3 (by decide)).2)
      have RO := Lib.hid (fun w => round_any S 0 w (by decide) (by decide) (by omega) (by omega))
      have RV : Hid (r64V (rsh S (0 : Int).toNat) = S ∧ r64F (rsh S (0 : Int).toNat) = true) := by
        rw [show (0 : Int).toNat = 0 from rfl, rsh_zero]
        have : r64F S = true := by simp [r64F]; omega
        exact Lib.hid ⟨by simp [r64V, this], this⟩
      have UB : Hid (unitB A = (decide (-4294967296 ≤ S - 1152921504606846976) && decide (S - 1152921504606846976 ≤ 4294967296))) := Lib.hid (by unfold unitB; rw [hq, hS, Bool.true_and])
      have B0 := R.out.below
      have Z0 := R.out.sz
      have HB0 := Lib.hid B0
      clear hc q0 q1 q2 q3 hS hq R hlt hk B0
      go_wp2_with fail
      refine AD.out.mono ?_; rintro e w2 ⟨rfl, hb2⟩
      have B2 := Lib.hid (Below.after HB0.out hb2)
      have Z2 : w.heap.size < w2.heap.size := by have := hb2.size; omega
      clear hb2 AD
      go_wp2_with fail
      refine (RO.out _).mono ?_; rintro e w3 ⟨rfl, hb3⟩
      have B3 := Lib.hid (Below.after (B2.out.alloc (by omega) _) hb3)
      rw [RV.out.1, RV.out.2]
      clear hb3 RO RV
      by_cases h1 : -4294967296 ≤ S - 1152921504606846976
      · have e1 : decide (-4294967296 ≤ S - 1152921504606846976) = true := by simpa using h1
        have e2 : decide (1152921500311879680 ≤ S) = true := by simp; omega
        by_cases h2 : S - 1152921504606846976 ≤ 4294967296
        · have e3 : decide (S - 1152921504606846976 ≤ 4294967296) = true := by simpa using h2
          have e4 : decide (S ≤ 1152921508901814272) = true := by simp; omega
          rw [e1, e3] at UB
          go_wp2_with fail
          go_ret
          exact ⟨by rw [UB.out]; rfl, B3.out⟩
        · have e3 : decide (S - 1152921504606846976 ≤ 4294967296) = false := by simpa using h2
          have e4 : decide (S ≤ 1152921508901814272) = false := by simp; omega
          rw [e1, e3] at UB
          go_wp2_with fail
          go_ret
          exact ⟨by rw [UB.out]; rfl, B3.out⟩
      · have e1 : decide (-4294967296 ≤ S - 1152921504606846976) = false := by simpa using h1
        have e2 : decide (1152921500311879680 ≤ S) = false := by simp; omega
        rw [e1, Bool.false_and] at UB
        go_wp2_with fail
        go_ret
        exact ⟨by rw [UB.out]; rfl, B3.out⟩
end Go.Proofs.Ytcibndlpnfikhaa
/- Contracts of package state (4): Good, Keep. -/
namespace Go.Proofs.Ytcibndlpnfikhaa
open Go.RowKit
set_option maxRecDepth 100000
def inBox (S : Nat → Int) (i : Nat) : Bool := decide (-(boxF i) ≤ S i) && decide (S i ≤ boxF i)
def boxQ (S : Nat → Int) : Nat → Bool | 0 => true | n + 1 => boxQ S n && inBox S n
def goodB (S : Nat → Int) : Bool := boxQ S 24 && unitB S
theorem boxQ_iff {S : Nat → Int} : ∀ {n : Nat}, boxQ S n = true ↔ ∀ i, i < n → -(boxF i) ≤ S i ∧ S i ≤ boxF i
  | 0 => by simp [boxQ]
  | n + 1 => by
    simp only [boxQ, Bool.and_eq_true, boxQ_iff, inBox, decide_eq_true_eq]
    constructor
    · rintro ⟨h, h1⟩ i hi
      by_cases e : i = n
      · subst e; exact h1
      · exact h i (by omega)
    · intro h
      exact ⟨fun i hi => h i (by omega), h n (by omega)⟩
theorem boxQ_no {S : Nat → Int} {n : Nat} (h : boxQ S n = false) : ∀ m, n ≤ m → boxQ S m = false := by
  intro m hm
  induction m with
  | zero => have : n = 0 := by omega
            subst this; exact h
  | succ m ih =>
    by_cases e : n = m + 1
    · subst e; exact h
    · simp [boxQ, ih (by omega)]
set_option maxHeartbeats 2000000 in
theorem sgood_any (S : Nat → Int) (w : World) : Calls Try.prog 5 #[.agg (arrv 24 S)] w fun e w' => e = .returned (.bool (goodB S)) ∧ Below w.heap.size w w' := by
  have P0 : Blk (w.alloc (.cells (arrv 24 S) 23)) w.heap.size 23 24 S := Blk.new w _ 24 _
  have P0 := Lib.hid P0
  have B0 := Lib.hid (show Below w.heap.size w (w.alloc (.cells (arrv 24 S) 23)) by (repeat (first | with_reducible exact Below.refl _ _ | with_reducible apply Below.drew | (with_reducible refine below_drewN ?_ _) | (with_reducible refine Below.alloc ?_ (by (try simp) <;> omega) _) | (with_reducible refine Below.setCell ?_ (by (try simp) <;> omega) _))))
  go_enter Try.func5, Try.ntmps5
  go_upto_region 1 with fail
  generalize w.alloc (.cells (arrv 24 S) 23) = W0 at *
  go_wp2_with fail
  refine (bounds_any _).mono ?_; rintro e w1 ⟨rfl, hb1⟩
  have P1 := Lib.hid (P0.out.below hb1)
  have B1 := Lib.hid (Below.after B0.out hb1)
  clear hb1 P0 B0
  go_wp2_with fail
  go_loopw [6] (fun i wr => ∃ k : Nat, k ≤ 24 ∧ i = .int .i64 k ∧ Hid (boxQ S k = true ∧ Below w.heap.size w wr ∧ Blk wr w.heap.size 23 24 S)) (fun i _ => 24 - (intOf i).toNat)
  case atStart => exact ⟨0, by omega, rfl, rfl, B1.out, P1.out⟩
  case round =>
    obtain ⟨k, hk, rfl, R⟩ := hrel
    by_cases hlt : k < 24
    · have d1 : decide ((k : Int) < 24) = true := by simp; omega
      go_upto_region 3 with fail
      refine wp_region_lit ?_
      refine wpList_val (v := ?_) rfl ?_ ?_
      rotate_left
      · (go_simp; (try (first | with_reducible rfl | (constructor <;> with_reducible rfl))))
      (try simp only [Act.put, List.setIfInBounds_toArray, List.set_cons_zero, List.set_cons_succ])
      refine wpList_val (v := ?_) rfl ?_ ?_
      rotate_left
      · refine Eq.trans (run_index_vec Try.underlying37 (.tmp 5) (.tmp 6) (by rfl) (by rfl) k (by rfl) hlt) ?_; with_reducible rfl
      (try simp only [Act.put, List.setIfInBounds_toArray, List.set_cons_zero, List.set_cons_succ])
      refine wpList_val (v := ?_) rfl ?_ ?_
      rotate_left
      · (go_simp; (try (first | with_reducible rfl | (constructor <;> with_reducible rfl))))
      (try simp only [Act.put, List.setIfInBounds_toArray, List.set_cons_zero, List.set_cons_succ])
      refine wpList_val (v := ?_) rfl ?_ ?_
      rotate_left
      · (go_simp; (try (first | with_reducible rfl | (constructor <;> with_reducible rfl))))
      (try simp only [Act.put, List.setIfInBounds_toArray, List.set_cons_zero, List.set_cons_succ])
      refine wpList_nil ?_
      have hM := boxF_bd k
      have hin : inBox S k = (decide (-(boxF k) ≤ S k) && decide (S k ≤ boxF k)) := rfl
      obtain ⟨M, hMe⟩ : ∃ M, boxF k = M := ⟨_, rfl⟩
      rw [hMe] at hM hin ⊢
      have hneg := neg_in M (by omega)
      have b0 := R.out.2.2.cell (i := k) hlt
      have k0 : (0 : Int) ≤ (k : Int) := Int.natCast_nonneg _
      have k1 : (k : Int) < 24 := by omega
      obtain ⟨x, hx⟩ : ∃ x, S k = x := ⟨_, rfl⟩
      rw [hx] at b0 hin
      by_cases h1 : M < x
      · have e1 : decide (M < x) = true := by simpa using h1
        have NO := Lib.hid (show goodB S = false by unfold goodB; rw [boxQ_no (n := k + 1) (by simp only [boxQ]; rw [hin, show decide (x ≤ M) = false by simp; omega, Bool.and_false, Bool.and_false]) 24 (by omega), Bool.false_and])
        clear hin hx hMe hM h1
        go_wp2_with fail
        go_ret
        exact ⟨by rw [NO.out]; rfl, R.out.2.1⟩
      · have e1 : decide (M < x) = false := by simpa using h1
        by_cases h2 : x < -M
        · have e2 : decide (x < -M) = true := by simpa using h2
          have NO := Lib.hid (show goodB S = false by unfold goodB; rw [boxQ_no (n := k + 1) (by simp only [boxQ]; rw [hin, show decide (-M ≤ x) = false by simp; omega, Bool.false_and, Bool.and_false]) 24 (by omega), Bool.false_and])
          clear hin hx hMe hM h1 h2
          go_wp2_with fail
          go_ret
          exact ⟨by rw [NO.out]; rfl, R.out.2.1⟩
        · have e2 : decide (x < -M) = false := by simpa using h2
          have OK := Lib.hid (show boxQ S (k + 1) = true by simp only [boxQ]; rw [R.out.1, hin, show decide (x ≤ M) = true by simp; omega, show decide (-M ≤ x) = true by simp; omega]; rfl)
          clear hin hx hMe hM h1 h2
          go_wp2_with fail
          go_roundw
          case rel => exact ⟨k + 1, by omega, by go_num, OK.out, R.out.2.1, R.out.2.2⟩
          case measure => simp [intOf]; omega
    · have hk24 : k = 24 := by omega
      subst hk24
      rw [show ((24 : Nat) : Int) = 24 from rfl]
      have P2 := R.out.2.2
      have B2 := Lib.hid R.out.2.1
      have OK := Lib.hid (show goodB S = unitB S by unfold goodB; rw [R.out.1, Bool.true_and])
      clear R hlt hk P1 B1
      go_wp2_with (first | (refine wpList_load_row rfl 23 _ rfl (w.heap.size) rfl 23 _ (0, 0) _ (P2) Try.underlying23 rfl (ist.trans (by rw [arrv_size])) ?_) | (go_at_call 7; (refine (att_any S _).mono ?_); rintro e w3 ⟨rfl, hb3⟩; have B3 := Lib.hid (Below.after B2.out hb3); clear hb3) | (go_at_call 19; (refine (sunit_any S _).mono ?_); rintro e w4 ⟨rfl, hb4⟩; have B4 := Lib.hid (Below.after B3.out hb4); clear hb4))
      go_ret
      exact ⟨by rw [OK.out]; rfl, B4.out⟩
end Go.Proofs.Ytcibndlpnfikhaa
/- Contract of state.Keep. -/
namespace Go.Proofs.Ytcibndlpnfikhaa
open Go.RowKit
set_option maxRecDepth 100000
def keepI (S : Nat → Int) : Nat → Int := if unitB S = true then S else turnd S (uniV S)
def keepF (S : Nat → Int) : Nat → Int := clmF (keepI S)
def keepH (S : Nat → Int) : Bool := (if unitB S = true then false else uniH S) || clmH (keepI S)
structure KpR (c : Addr) (h : Bool) (g : Nat → Int) (w wr : World) : Prop where
  upd : Upd c h w wr
  blk : Blk wr w.heap.size 23 24 g
  res : Blk wr (w.heap.size + 1) 23 24 (fun _ => 0)
theorem KpR.upd' {c : Addr} {h h' : Bool} {g : Nat → Int} {w wr w' : World} (s : KpR c h g w wr) (hc : c.block < w.heap.size) (u : Upd c h' wr w') : KpR c h' g w w' :=
  ⟨s.upd.trans u, s.blk.upd u (by omega), s.res.upd u (by omega)⟩
theorem KpR.down {c : Addr} {h : Bool} {g : Nat → Int} {w wr w' : World} (s : KpR c h g w wr) (u : Below wr.heap.size wr w') : KpR c h g w w' :=
  ⟨s.upd.then u, s.blk.below u, s.res.below u⟩
theorem KpR.row {c : Addr} {h : Bool} {g : Nat → Int} {w wr : World} (s : KpR c h g w wr) (f : Nat → Int) : KpR c h f w (wr.setRow w.heap.size (arrv 24 f)) :=
  ⟨s.upd.then' (below_row (Below.refl _ _) (Nat.le_refl _) _), s.blk.setRow f, s.res.setRow_other _ (by omega)⟩
theorem KpR.drew {c : Addr} {h : Bool} {g : Nat → Int} {w wr : World} (s : KpR c h g w wr) : KpR c h g w wr.drew := ⟨s.upd.drew, s.blk, s.res⟩
set_option maxHeartbeats 2000000 in
theorem keep_any (c : Addr) (h : Bool) (S : Nat → Int) (w : World) (hc : w.cell? c = some (.bool h)) (hf : w.frozen? c = false) :
    Calls Try.prog 13 #[.pointer (some c), .agg (arrv 24 S)] w fun e w' => e = .returned (.agg (arrv 24 (keepF S))) ∧ Upd c (h || keepH S) w w' := by
  have hcb := World.block_lt_of_cell? w c hc
  have S0 : Hid (KpR c h S w ((w.alloc (.cells (arrv 24 S) 23)).alloc (.cells #[.int .i64 0, .int .i64 0, .int .i64 0, .int .i64 0, .int .i64 0, .int .i64 0, .int .i64 0, .int .i64 0, .int .i64 0, .int .i64 0, .int .i64 0, .int .i64 0, .int .i64 0, .int .i64 0, .int .i64 0, .int .i64 0, .int .i64 0, .int .i64 0, .int .i64 0, .int .i64 0, .int .i64 0, .int .i64 0, .int .i64 0, .int .i64 0] 23))) := Lib.hid
    ⟨Upd.then (Upd.refl hc) (by (repeat (first | with_reducible exact Below.refl _ _ | with_reducible apply Below.drew | (with_reducible refine below_drewN ?_ _) | (with_reducible refine Below.alloc ?_ (by (try simp) <;> omega) _) | (with_reducible refine Below.setCell ?_ (by (try simp) <;> omega) _)))), (Blk.new w _ 24 _).alloc _, by rw [zvec24]; exact Blk.new1 w _ _ 24 _⟩
  have HC := Lib.hid hc
  have HF := Lib.hid hf
  clear hc hf
  go_enter Try.func13, Try.ntmps13
  go_upto_region 1 with fail
  generalize (w.alloc (.cells (arrv 24 S) 23)).alloc (.cells #[.int .i64 0, .int .i64 0, .int .i64 0, .int .i64 0, .int .i64 0, .int .i64 0, .int .i64 0, .int .i64 0, .int .i64 0, .int .i64 0, .int .i64 0, .int .i64 0, .int .i64 0, .int .i64 0, .int .i64 0, .int .i64 0, .int .i64 0, .int .i64 0, .int .i64 0, .int .i64 0, .int .i64 0, .int .i64 0, .int .i64 0, .int .i64 0] 23) = W0 at *
  have P0 := S0.out.blk
  by_cases hu : unitB S = true
  · have E := Lib.hid (show keepF S = clmF S ∧ (h || keepH S) = (h || clmH S) by unfold keepF keepH keepI; rw [if_pos hu, if_pos hu, Bool.false_or]; exact ⟨rfl, rfl⟩)
    go_wp2_with (first | (refine wpList_load_row rfl 23 _ rfl (w.heap.size) rfl 23 _ (0, 0) _ (P0) Try.underlying23 rfl (ist.trans (by rw [arrv_size])) ?_) | (go_at_call 7; (refine (att_any S _).mono ?_); rintro e w1 ⟨rfl, hb1⟩; have S1 := Lib.hid (S0.out.down hb1); clear hb1) | (go_at_call 19; (refine (sunit_any S _).mono ?_); rintro e w2 ⟨rfl, hb2⟩; have S2 := Lib.hid (S1.out.down hb2); (rw [hu]); have P2 := S2.out.blk; have CL := Lib.hid (clamp24_any c h S w2 (S2.out.upd.cellc HC.out) ((S2.out.upd.frozen hcb).trans HF.out)); clear hb2) | (refine wpList_load_row rfl 23 _ rfl (w.heap.size) rfl 23 _ (0, 0) _ (P2) Try.underlying23 rfl (ist.trans (by rw [arrv_size])) ?_) | (go_at_call 24; (refine CL.out.mono ?_); rintro e w3 ⟨rfl, hu3⟩; have S3 := Lib.hid (S2.out.upd' hcb hu3); have R3 := S3.out.res; clear hu3) | (refine wpList_store_row rfl 23 _ _ rfl (w.heap.size + 1) _ rfl rfl 23 _ (R3) (ist.trans (by rw [arrv_size])) (by rw [arrv_size, arrv_size]) (oneCell_arrv _ _) ?_))
    refine bodyPost_ret (results_cell_row Try.results13 _ _ (w.heap.size + 1) 23 (arrv 24 (clmF S)) (0, 0) _ rfl (setRow_heap _ _ _ _ _ _ R3) Try.underlying23 rfl (ist.trans (by rw [arrv_size]))) rfl ⟨by rw [E.out.1], ?_⟩
    rw [E.out.2]
    exact S3.out.upd.then' (below_row (Below.refl _ _) (by omega) _)
  · have hu2 : unitB S = false := by simpa using hu
    obtain ⟨T, hT⟩ : ∃ T, turnd S (uniV S) = T := ⟨_, rfl⟩
    have E := Lib.hid (show keepF S = clmF T ∧ (h || keepH S) = (h || uniH S || clmH T) by unfold keepF keepH keepI; rw [if_neg hu, if_neg hu, hT, ← Bool.or_assoc]; exact ⟨rfl, rfl⟩)
    have HT := Lib.hid hT
    clear hT hu
    go_upto_region 2 with (first | (refine wpList_load_row rfl 23 _ rfl (w.heap.size) rfl 23 _ (0, 0) _ (P0) Try.underlying23 rfl (ist.trans (by rw [arrv_size])) ?_) | (go_at_call 7; (refine (att_any S _).mono ?_); rintro e w1 ⟨rfl, hb1⟩; have S1 := Lib.hid (S0.out.down hb1); clear hb1) | (go_at_call 19; (refine (sunit_any S _).mono ?_); rintro e w2 ⟨rfl, hb2⟩; have S2 := Lib.hid (S1.out.down hb2); (rw [hu2]); clear hb2))
    clear S0 S1 P0 hu2
    have P2 := S2.out.blk
    refine wp_region_M (fun w' => Blk w' w.heap.size 23 24 S) 6 (by kernel_rfl) ?_ (fun hHeld => ?_)
    · exact P2.drew
    refine wpAnyM_take 0 (v := ?_) rfl (by kernel_rfl) (fun _ _ _ h => h) (Or.inl ⟨by rfl, ?_⟩) (by assumption) ?_
    rotate_left
    · (intro wx hSw; refine Eq.trans (run_load_row 23 (.tmp 3) (by rfl) w.heap.size (by rfl) _ _ _ _ hSw Try.underlying23 rfl (ist.trans (by rw [arrv_size]))) ?_; with_reducible rfl)
    (try simp only [Act.put, List.setIfInBounds_toArray, List.set_cons_zero, List.set_cons_succ])
    refine wpAnyM_take 1 (v := ?_) rfl (by kernel_rfl) (fun _ _ _ h => h) (Or.inl ⟨by rfl, ?_⟩) (by assumption) ?_
    rotate_left
    · (intro wx hSw; (try dsimp only at hSw); go_simp; (try with_reducible rfl))
    (try simp only [Act.put, List.setIfInBounds_toArray, List.set_cons_zero, List.set_cons_succ])
    refine wpAnyM_take 2 (v := ?_) rfl (by kernel_rfl) (fun _ _ _ h => h) (Or.inl ⟨by rfl, ?_⟩) (by assumption) ?_
    rotate_left
    · (intro wx hSw; refine Eq.trans (run_load_row 23 (.tmp 3) (by rfl) w.heap.size (by rfl) _ _ _ _ hSw Try.underlying23 rfl (ist.trans (by rw [arrv_size]))) ?_; with_reducible rfl)
    (try simp only [Act.put, List.setIfInBounds_toArray, List.set_cons_zero, List.set_cons_succ])
    refine wpAnyM_oneS 3 rfl (by kernel_rfl) (fun K hK => ?_)
    go_simp
    (refine (att_any S _).mono ?_); rintro e w3 ⟨rfl, hb3⟩; have S3 := Lib.hid (S2.out.drew.down hb3); clear hb3
    (try dsimp only)
    (try simp only [Act.put, List.setIfInBounds_toArray, List.set_cons_zero, List.set_cons_succ])
    clear hHeld
    refine hK.out _ _ ?_ (fun hHeld => ?_)
    · exact S3.out.blk
    clear hK K
    (try simp only [Act.put, List.setIfInBounds_toArray, List.set_cons_zero, List.set_cons_succ])
    refine wpAnyM_oneS 4 rfl (by kernel_rfl) (fun K hK => ?_)
    go_simp
    (refine (qunit_any c h S w3 (S3.out.upd.cellc HC.out) ((S3.out.upd.frozen hcb).trans HF.out)).mono ?_); rintro e w4 ⟨rfl, hu4⟩; have S4 := Lib.hid (S3.out.upd' hcb hu4); clear hu4
    (try dsimp only)
    (try simp only [Act.put, List.setIfInBounds_toArray, List.set_cons_zero, List.set_cons_succ])
    clear hHeld
    refine hK.out _ _ ?_ (fun hHeld => ?_)
    · exact S4.out.blk
    clear hK K
    (try simp only [Act.put, List.setIfInBounds_toArray, List.set_cons_zero, List.set_cons_succ])
    refine wpAnyM_oneS 5 rfl (by kernel_rfl) (fun K hK => ?_)
    go_simp
    (refine (turned_any S (uniV S) _).mono ?_); rintro e w5 ⟨rfl, hb5⟩; have S5 := Lib.hid (S4.out.down hb5); clear hb5; (rw [HT.out]); have P5 := S5.out.blk
    (try dsimp only)
    (try simp only [Act.put, List.setIfInBounds_toArray, List.set_cons_zero, List.set_cons_succ])
    clear hHeld
    refine hK.out _ _ ?_ (fun hHeld => ?_)
    · exact S5.out.blk
    clear hK K
    (try simp only [Act.put, List.setIfInBounds_toArray, List.set_cons_zero, List.set_cons_succ])
    refine wpAnyM_one 6 rfl (by kernel_rfl) (fun K hK => ?_)
    go_simp; rw [if_pos (arrv_size _ _), run_storeCells_row _ P5]; go_simp
    refine hK.out _ _ (.inl (by kernel_rfl)) (fun _ => ?_)
    clear hK K
    (try simp only [Act.put, List.setIfInBounds_toArray, List.set_cons_zero, List.set_cons_succ])
    refine wpAnyM_done (by kernel_rfl) ?_ _
    have S6 := S5.out.row T
    generalize w5.setRow w.heap.size (arrv 24 T) = W6 at *
    have S6' := Lib.hid S6
    have P6 := S6.blk
    have CL := Lib.hid (clamp24_any c _ T W6 (S6.upd.cellc HC.out) ((S6.upd.frozen hcb).trans HF.out))
    clear S6 S2 S3 S4 S5 P2 P5
    go_wp2_with (first | (refine wpList_load_row rfl 23 _ rfl (w.heap.size) rfl 23 _ (0, 0) _ (P6) Try.underlying23 rfl (ist.trans (by rw [arrv_size])) ?_) | (go_at_call 24; (refine CL.out.mono ?_); rintro e w7 ⟨rfl, hu7⟩; have S7 := Lib.hid (S6'.out.upd' hcb hu7); have R7 := S7.out.res; clear hu7) | (refine wpList_store_row rfl 23 _ _ rfl (w.heap.size + 1) _ rfl rfl 23 _ (R7) (ist.trans (by rw [arrv_size])) (by rw [arrv_size, arrv_size]) (oneCell_arrv _ _) ?_))
    refine bodyPost_ret (results_cell_row Try.results13 _ _ (w.heap.size + 1) 23 (arrv 24 (clmF T)) (0, 0) _ rfl (setRow_heap _ _ _ _ _ _ R7) Try.underlying23 rfl (ist.trans (by rw [arrv_size]))) rfl ⟨by rw [E.out.1], ?_⟩
    rw [E.out.2]
    exact S7.out.upd.then' (below_row (Below.refl _ _) (by omega) _)
end Go.Proofs.Ytcibndlpnfikhaa
/- Contracts of package state (6): Part, With. -/
namespace Go.Proofs.Ytcibndlpnfikhaa
open Go.RowKit
set_option maxRecDepth 100000
/-- Numbers put in from number a on: the first n of L. -/
def withF (S : Nat → Int) (a : Int) (n : Nat) (L : Nat → Int) : Nat → Int := fun i => if a ≤ i ∧ i < a + n then L ((i : Int) - a).toNat else S i
theorem iv3 : (Try.prog.info? 33).map (·.size) = some 3 := by kernel_rfl
theorem zv3 : (#[.int .i64 0, .int .i64 0, .int .i64 0] : Array Value) = arrv 3 (fun _ => 0) := by kernel_rfl
/-- Three numbers of a state, from number a on. -/
def partF (S : Nat → Int) (a : Int) : Nat → Int := fun k => if 0 ≤ a + k ∧ a + k < 24 then S (a + k).toNat else 0
def partI (S : Nat → Int) (a : Int) (m : Nat) : Nat → Int := fun k => if k < m then partF S a k else 0
structure PtR (B : Nat) (S g : Nat → Int) (w wr : World) : Prop where
  below : Below w.heap.size w wr
  sB : Blk wr w.heap.size 23 24 S
  rB : Blk wr (w.heap.size + 1) 33 3 (fun _ => 0)
  vB : Blk wr (w.heap.size + 1 + 1) 33 3 g
set_option maxHeartbeats 2000000 in
theorem part_any (S : Nat → Int) (a : Int) (w : World) (a0 : -1000000 ≤ a) (a1 : a ≤ 1000000) :
    Calls Try.prog 9 #[.agg (arrv 24 S), .int .i64 a] w fun e w' => e = .returned (.agg (arrv 3 (partF S a))) ∧ Below w.heap.size w w' := by
  go_enter Try.func9, Try.ntmps9
  go_upto_region 2 with fail
  have R0 : Hid (PtR 0 S (partI S a 0) w (((w.alloc (.cells (arrv 24 S) 23)).alloc (.cells #[.int .i64 0, .int .i64 0, .int .i64 0] 33)).alloc (.cells #[.int .i64 0, .int .i64 0, .int .i64 0] 33))) := Lib.hid
    ⟨by (repeat (first | with_reducible exact Below.refl _ _ | with_reducible apply Below.drew | (with_reducible refine below_drewN ?_ _) | (with_reducible refine Below.alloc ?_ (by (try simp) <;> omega) _) | (with_reducible refine Below.setCell ?_ (by (try simp) <;> omega) _))), ((Blk.new w _ _ _).alloc _).alloc _, by rw [zv3]; exact (Blk.new1 w _ _ _ _).alloc _, by rw [zv3]; exact (blk_new2 w _ _ _ _ _).congr fun i hi => by simp [partI]⟩
  generalize ((w.alloc (.cells (arrv 24 S) 23)).alloc (.cells #[.int .i64 0, .int .i64 0, .int .i64 0] 33)).alloc (.cells #[.int .i64 0, .int .i64 0, .int .i64 0] 33) = W0 at *
  go_wp2_with fail
  go_loopw [8] (fun i wr => ∃ k : Nat, k ≤ 3 ∧ i = .int .i64 k ∧ Hid (PtR 0 S (partI S a k) w wr)) (fun i _ => 3 - (intOf i).toNat)
  case atStart => exact ⟨0, by omega, rfl, R0.out⟩
  case round =>
    obtain ⟨k, hk, rfl, R⟩ := hrel
    by_cases hlt : k < 3
    · have d1 : decide ((k : Int) < 3) = true := by simp; omega
      have k0 : (0 : Int) ≤ (k : Int) := Int.natCast_nonneg _
      have k1 : (k : Int) < 3 := by omega
      have v0 := R.out.vB.cell (i := k) (by omega)
      have v1 := R.out.vB.free k
      by_cases h1 : 0 ≤ a + (k : Int)
      · by_cases h2 : a + (k : Int) < 24
        · have e1 : decide (0 ≤ a + (k : Int)) = true := by simpa using h1
          have e2 : decide (a + (k : Int) < 24) = true := by simpa using h2
          have s0 := R.out.sB.cell (i := (a + (k : Int)).toNat) (by omega)
          have EP := Lib.hid (show partF S a k = S (a + (k : Int)).toNat by unfold partF; rw [if_pos ⟨h1, h2⟩])
          go_wp2_with fail
          go_roundw
          case rel =>
            refine ⟨k + 1, by omega, by go_num, R.out.below.setCell (by simp; omega) _, R.out.sB.other (by simp; omega) _, R.out.rB.other (by simp) _, (R.out.vB.set _ _).congr fun i hi => ?_⟩
            simp only [Go.Proofs.Ytcibndlpnfikhaa.upd, partI]
            by_cases h : i = k
            · subst h; rw [if_pos rfl, if_pos (by omega), EP.out]
            · rw [if_neg h]; split <;> split <;> first | rfl | omega
          case measure => simp [intOf]; omega
        · have e1 : decide (0 ≤ a + (k : Int)) = true := by simpa using h1
          have e2 : decide (a + (k : Int) < 24) = false := by simpa using h2
          have EP := Lib.hid (show partF S a k = 0 by unfold partF; rw [if_neg (by omega)])
          go_wp2_with fail
          go_roundw
          case rel =>
            refine ⟨k + 1, by omega, by go_num, R.out.below, R.out.sB, R.out.rB, R.out.vB.congr fun i hi => ?_⟩
            simp only [partI]
            by_cases h : i = k
            · subst h; rw [if_neg (by omega), if_pos (by omega), EP.out]
            · split <;> split <;> first | rfl | omega
          case measure => simp [intOf]; omega
      · have e1 : decide (0 ≤ a + (k : Int)) = false := by simpa using h1
        have EP := Lib.hid (show partF S a k = 0 by unfold partF; rw [if_neg (by omega)])
        go_wp2_with fail
        go_roundw
        case rel =>
          refine ⟨k + 1, by omega, by go_num, R.out.below, R.out.sB, R.out.rB, R.out.vB.congr fun i hi => ?_⟩
          simp only [partI]
          by_cases h : i = k
          · subst h; rw [if_neg (by omega), if_pos (by omega), EP.out]
          · split <;> split <;> first | rfl | omega
        case measure => simp [intOf]; omega
    · have hk3 : k = 3 := by omega
      subst hk3
      rw [show ((3 : Nat) : Int) = 3 from rfl]
      have V := R.out.vB
      have X := R.out.rB
      have B := Lib.hid R.out.below
      clear R hk hlt R0
      go_wp2_with (first | (refine wpList_load_row rfl 33 _ rfl (w.heap.size + 1 + 1) rfl 33 _ (0, 0) _ (V) Try.underlying33 rfl (iv3.trans (by rw [arrv_size])) ?_) | (refine wpList_store_row rfl 33 _ _ rfl (w.heap.size + 1) _ rfl rfl 33 _ (X) (iv3.trans (by rw [arrv_size])) (by rw [arrv_size, arrv_size]) (oneCell_arrv _ _) ?_))
      refine bodyPost_ret (results_cell_row Try.results9 _ _ (w.heap.size + 1) 33 (arrv 3 (partI S a 3)) (0, 0) _ rfl (setRow_heap _ _ _ _ _ _ X) Try.underlying33 rfl (iv3.trans (by rw [arrv_size]))) rfl ⟨?_, below_row B.out (by omega) _⟩
      rw [arrv_congr (g := partF S a) fun i hi => by simp only [partI]; rw [if_pos hi]]
structure WhR (S g : Nat → Int) (w wr : World) : Prop where
  below : Below w.heap.size w wr
  sB : Blk wr w.heap.size 23 24 g
  rB : Blk wr (w.heap.size + 1) 23 24 (fun _ => 0)
set_option maxHeartbeats 2000000 in
theorem swith_any (S : Nat → Int) (a : Int) (p : Option Addr) (n cp : Nat) (L : Nat → Int) (w : World) (a0 : -1000000 ≤ a) (a1 : a ≤ 1000000) (hn : n ≤ 1000) (hL : Slc w p n L) :
    Calls Try.prog 17 #[.agg (arrv 24 S), .int .i64 a, .slice p n cp] w fun e w' => e = .returned (.agg (arrv 24 (withF S a n L))) ∧ Below w.heap.size w w' := by
  have HL := Lib.hid hL
  clear hL
  go_enter Try.func17, Try.ntmps17
  go_upto_region 1 with fail
  have R0 : Hid (WhR S (withF S a 0 L) w ((w.alloc (.cells (arrv 24 S) 23)).alloc (.cells #[.int .i64 0, .int .i64 0, .int .i64 0, .int .i64 0, .int .i64 0, .int .i64 0, .int .i64 0, .int .i64 0, .int .i64 0, .int .i64 0, .int .i64 0, .int .i64 0, .int .i64 0, .int .i64 0, .int .i64 0, .int .i64 0, .int .i64 0, .int .i64 0, .int .i64 0, .int .i64 0, .int .i64 0, .int .i64 0, .int .i64 0, .int .i64 0] 23))) := Lib.hid
    ⟨by (repeat (first | with_reducible exact Below.refl _ _ | with_reducible apply Below.drew | (with_reducible refine below_drewN ?_ _) | (with_reducible refine Below.alloc ?_ (by (try simp) <;> omega) _) | (with_reducible refine Below.setCell ?_ (by (try simp) <;> omega) _))), ((Blk.new w _ _ _).alloc _).congr fun i hi => by unfold withF; rw [if_neg (by omega)], by rw [zvec24]; exact Blk.new1 w _ _ _ _⟩
  generalize (w.alloc (.cells (arrv 24 S) 23)).alloc (.cells #[.int .i64 0, .int .i64 0, .int .i64 0, .int .i64 0, .int .i64 0, .int .i64 0, .int .i64 0, .int .i64 0, .int .i64 0, .int .i64 0, .int .i64 0, .int .i64 0, .int .i64 0, .int .i64 0, .int .i64 0, .int .i64 0, .int .i64 0, .int .i64 0, .int .i64 0, .int .i64 0, .int .i64 0, .int .i64 0, .int .i64 0, .int .i64 0] 23) = W0 at *
  go_wp2_with fail
  go_loopw [12] (fun i wr => ∃ k : Nat, k ≤ n ∧ i = .int .i64 k ∧ Hid (WhR S (withF S a k L) w wr)) (fun i _ => n - (intOf i).toNat)
  case atStart => exact ⟨0, by omega, rfl, R0.out⟩
  case round =>
    obtain ⟨k, hk, rfl, R⟩ := hrel
    by_cases hlt : k < n
    · obtain ⟨pb, po, rfl, hcell⟩ := HL.out k hlt
      have k0 : (0 : Int) ≤ (k : Int) := Int.natCast_nonneg _
      have k1 : (k : Int) < 1000 := by omega
      have hl0 := (R.out.below.cell (World.block_lt_of_cell? _ _ hcell)).trans hcell
      by_cases h1 : 0 ≤ a + (k : Int)
      · by_cases h2 : a + (k : Int) < 24
        · have e1 : decide (0 ≤ a + (k : Int)) = true := by simpa using h1
          have e2 : decide (a + (k : Int) < 24) = true := by simpa using h2
          have s0 := R.out.sB.cell (i := (a + (k : Int)).toNat) (by omega)
          have s1 := R.out.sB.free (a + (k : Int)).toNat
          clear hcell
          go_wp2_with fail
          go_roundw
          case rel =>
            refine ⟨k + 1, by omega, by go_num, R.out.below.setCell (by simp) _, (R.out.sB.set _ _).congr fun i hi => ?_, R.out.rB.other (by simp) _⟩
            simp only [Go.Proofs.Ytcibndlpnfikhaa.upd, withF]
            by_cases h : i = (a + (k : Int)).toNat
            · rw [if_pos h, if_pos (by omega)]; congr 1; omega
            · rw [if_neg h]; split <;> split <;> first | rfl | omega
          case measure => simp [intOf]; omega
        · have e1 : decide (0 ≤ a + (k : Int)) = true := by simpa using h1
          have e2 : decide (a + (k : Int) < 24) = false := by simpa using h2
          clear hcell
          go_wp2_with fail
          go_roundw
          case rel =>
            refine ⟨k + 1, by omega, by go_num, R.out.below, R.out.sB.congr fun i hi => ?_, R.out.rB⟩
            simp only [withF]
            split <;> split <;> first | rfl | omega
          case measure => simp [intOf]; omega
      · have e1 : decide (0 ≤ a + (k : Int)) = false := by simpa using h1
        clear hcell
        go_wp2_with fail
        go_roundw
        case rel =>
          refine ⟨k + 1, by omega, by go_num, R.out.below, R.out.sB.congr fun i hi => ?_, R.out.rB⟩
          simp only [withF]
          split <;> split <;> first | rfl | omega
        case measure => simp [intOf]; omega
    · have hkn : k = n := by omega
      subst hkn
      have V := R.out.sB
      have X := R.out.rB
      have B := Lib.hid R.out.below
      clear R hk hlt R0
      go_wp2_with (first | (refine wpList_load_row rfl 23 _ rfl (w.heap.size) rfl 23 _ (0, 0) _ (V) Try.underlying23 rfl (ist.trans (by rw [arrv_size])) ?_) | (refine wpList_store_row rfl 23 _ _ rfl (w.heap.size + 1) _ rfl rfl 23 _ (X) (ist.trans (by rw [arrv_size])) (by rw [arrv_size, arrv_size]) (oneCell_arrv _ _) ?_))
      refine bodyPost_ret (results_cell_row Try.results17 _ _ (w.heap.size + 1) 23 (arrv 24 (withF S a k L)) (0, 0) _ rfl (setRow_heap _ _ _ _ _ _ X) Try.underlying23 rfl (ist.trans (by rw [arrv_size]))) rfl ⟨rfl, below_row B.out (by omega) _⟩
end Go.Proofs.Ytcibndlpnfikhaa
/- Contract of state.Add. -/
namespace Go.Proofs.Ytcibndlpnfikhaa
open Go.RowKit
set_option maxRecDepth 100000
def sumA (S D : Nat → Int) : Nat → Int := fun i => addV (S i) (D i)
def sumK (S D : Nat → Int) (k : Nat) : Nat → Int := fun i => if i < k then addV (S i) (D i) else S i
def add1F (S D : Nat → Int) : Nat → Int := clmF (turnd (sumA S D) (uniV (sumA S D)))
def add1H (S D : Nat → Int) : Bool := orB (fun i => addH (S i) (D i)) 24 || uniH (sumA S D) || clmH (turnd (sumA S D) (uniV (sumA S D)))
/-- The first n of D's rows of 24 added. -/
def addNF (S D : Nat → Int) : Nat → Nat → Int | 0 => S | n + 1 => add1F (addNF S D n) (fun i => D (n * 24 + i))
def addNH (S D : Nat → Int) : Nat → Bool | 0 => false | n + 1 => addNH S D n || add1H (addNF S D n) (fun i => D (n * 24 + i))
theorem sadd_none (c : Addr) (h : Bool) (S : Nat → Int) (p : Option Addr) (cp : Nat) (w : World) (hc : w.cell? c = some (.bool h)) (hf : w.frozen? c = false) :
    Calls Try.prog 15 #[.pointer (some c), .agg (arrv 24 S), .slice p 0 cp] w fun e w' => e = .returned (.agg (arrv 24 (keepF S))) ∧ Upd c (h || keepH S) w w' := by
  have hcb := World.block_lt_of_cell? w c hc
  have S0 : Hid (KpR c h S w ((w.alloc (.cells (arrv 24 S) 23)).alloc (.cells #[.int .i64 0, .int .i64 0, .int .i64 0, .int .i64 0, .int .i64 0, .int .i64 0, .int .i64 0, .int .i64 0, .int .i64 0, .int .i64 0, .int .i64 0, .int .i64 0, .int .i64 0, .int .i64 0, .int .i64 0, .int .i64 0, .int .i64 0, .int .i64 0, .int .i64 0, .int .i64 0, .int .i64 0, .int .i64 0, .int .i64 0, .int .i64 0] 23))) := Lib.hid
    ⟨Upd.then (Upd.refl hc) (by (repeat (first | with_reducible exact Below.refl _ _ | with_reducible apply Below.drew | (with_reducible refine below_drewN ?_ _) | (with_reducible refine Below.alloc ?_ (by (try simp) <;> omega) _) | (with_reducible refine Below.setCell ?_ (by (try simp) <;> omega) _)))), (Blk.new w _ 24 _).alloc _, by rw [zvec24]; exact Blk.new1 w _ _ 24 _⟩
  have HC := Lib.hid hc
  have HF := Lib.hid hf
  clear hc hf
  go_enter Try.func15, Try.ntmps15
  go_upto_region 1 with fail
  generalize (w.alloc (.cells (arrv 24 S) 23)).alloc (.cells #[.int .i64 0, .int .i64 0, .int .i64 0, .int .i64 0, .int .i64 0, .int .i64 0, .int .i64 0, .int .i64 0, .int .i64 0, .int .i64 0, .int .i64 0, .int .i64 0, .int .i64 0, .int .i64 0, .int .i64 0, .int .i64 0, .int .i64 0, .int .i64 0, .int .i64 0, .int .i64 0, .int .i64 0, .int .i64 0, .int .i64 0, .int .i64 0] 23) = W0 at *
  have P0 := S0.out.blk
  have KP := Lib.hid (keep_any c h S W0 (S0.out.upd.cellc HC.out) ((S0.out.upd.frozen hcb).trans HF.out))
  go_wp2_with (first | (refine wpList_load_row rfl 23 _ rfl (w.heap.size) rfl 23 _ (0, 0) _ (P0) Try.underlying23 rfl (ist.trans (by rw [arrv_size])) ?_) | (go_at_call 13; (refine KP.out.mono ?_); rintro e w1 ⟨rfl, hu1⟩; have S1 := Lib.hid (S0.out.upd' hcb hu1); have R1 := S1.out.res; clear hu1) | (refine wpList_store_row rfl 23 _ _ rfl (w.heap.size + 1) _ rfl rfl 23 _ (R1) (ist.trans (by rw [arrv_size])) (by rw [arrv_size, arrv_size]) (oneCell_arrv _ _) ?_))
  refine bodyPost_ret (results_cell_row Try.results15 _ _ (w.heap.size + 1) 23 (arrv 24 (keepF S)) (0, 0) _ rfl (setRow_heap _ _ _ _ _ _ R1) Try.underlying23 rfl (ist.trans (by rw [arrv_size]))) rfl ⟨rfl, ?_⟩
  exact S1.out.upd.then' (below_row (Below.refl _ _) (by omega) _)
theorem KpR.upd2 {c : Addr} {h h' : Bool} {g : Nat → Int} {w wr w' : World} (s : KpR c h g w wr) (hc : c.block < w.heap.size) (u : Upd c h' wr w') : KpR c h' g w w' := s.upd' hc u
set_option maxHeartbeats 4000000 in
theorem sadd_any (c : Addr) (h : Bool) (S D : Nat → Int) (pd n cp : Nat) (w : World) (hc : w.cell? c = some (.bool h)) (hf : w.frozen? c = false) (hn : 0 < n) (hn2 : n ≤ 100)
    (hD : Blk w pd 22 (24 * n) D) :
    Calls Try.prog 15 #[.pointer (some c), .agg (arrv 24 S), .slice (some ⟨pd, 0, none⟩) n cp] w fun e w' => e = .returned (.agg (arrv 24 (addNF S D n))) ∧ Upd c (h || addNH S D n) w w' := by
  have hcb := World.block_lt_of_cell? w c hc
  have hdc := hD.flag hc
  have S0 : Hid (KpR c h S w ((w.alloc (.cells (arrv 24 S) 23)).alloc (.cells #[.int .i64 0, .int .i64 0, .int .i64 0, .int .i64 0, .int .i64 0, .int .i64 0, .int .i64 0, .int .i64 0, .int .i64 0, .int .i64 0, .int .i64 0, .int .i64 0, .int .i64 0, .int .i64 0, .int .i64 0, .int .i64 0, .int .i64 0, .int .i64 0, .int .i64 0, .int .i64 0, .int .i64 0, .int .i64 0, .int .i64 0, .int .i64 0] 23))) := Lib.hid
    ⟨Upd.then (Upd.refl hc) (by (repeat (first | with_reducible exact Below.refl _ _ | with_reducible apply Below.drew | (with_reducible refine below_drewN ?_ _) | (with_reducible refine Below.alloc ?_ (by (try simp) <;> omega) _) | (with_reducible refine Below.setCell ?_ (by (try simp) <;> omega) _)))), (Blk.new w _ 24 _).alloc _, by rw [zvec24]; exact Blk.new1 w _ _ 24 _⟩
  have HC := Lib.hid hc
  have HF := Lib.hid hf
  have HD := Lib.hid hD
  have e0 : ((n : Int) == 0) = false := by simp; omega
  have e1 : (n == 0) = false := by simp; omega
  clear hc hf hD
  go_enter Try.func15, Try.ntmps15
  go_upto_region 1 with fail
  generalize (w.alloc (.cells (arrv 24 S) 23)).alloc (.cells #[.int .i64 0, .int .i64 0, .int .i64 0, .int .i64 0, .int .i64 0, .int .i64 0, .int .i64 0, .int .i64 0, .int .i64 0, .int .i64 0, .int .i64 0, .int .i64 0, .int .i64 0, .int .i64 0, .int .i64 0, .int .i64 0, .int .i64 0, .int .i64 0, .int .i64 0, .int .i64 0, .int .i64 0, .int .i64 0, .int .i64 0, .int .i64 0] 23) = W0 at *
  go_wp2_with fail
  clear e0 e1
  go_loopw [18] (fun i wr => ∃ j : Nat, j ≤ n ∧ i = .int .i64 j ∧ Hid (KpR c (h || addNH S D j) (addNF S D j) w wr)) (fun i _ => n - (intOf i).toNat)
  case atStart => exact ⟨0, by omega, rfl, by rw [show (h || addNH S D 0) = h from by simp [addNH]]; exact S0.out⟩
  case round =>
    obtain ⟨j, hj, rfl, R⟩ := hrel
    by_cases hlt : j < n
    · have d1 : decide ((j : Int) < (n : Int)) = true := by simp; omega
      have d2 : decide (j < n) = true := by simpa using hlt
      have j0 : (0 : Int) ≤ (j : Int) := Int.natCast_nonneg _
      have j1 : (j : Int) < 100 := by omega
      have DB := HD.out.upd R.out.upd hdc
      obtain ⟨G, hG⟩ : ∃ G, addNF S D j = G := ⟨_, rfl⟩
      obtain ⟨E, hE⟩ : ∃ E : Nat → Int, (fun i => D (j * 24 + i)) = E := ⟨_, rfl⟩
      obtain ⟨H1, hH1⟩ : ∃ H1, (h || addNH S D j) = H1 := ⟨_, rfl⟩
      have HST := Lib.hid (show addNF S D (j + 1) = add1F G E ∧ (h || addNH S D (j + 1)) = (H1 || add1H G E) by rw [← hG, ← hE, ← hH1]; exact ⟨rfl, by simp [addNH, Bool.or_assoc]⟩)
      rw [hG, hH1] at R
      have HE := Lib.hid hE
      have X1 : Blk (wr.alloc (.cells #[.int .i64 0, .int .i64 0, .int .i64 0, .int .i64 0, .int .i64 0, .int .i64 0, .int .i64 0, .int .i64 0, .int .i64 0, .int .i64 0, .int .i64 0, .int .i64 0, .int .i64 0, .int .i64 0, .int .i64 0, .int .i64 0, .int .i64 0, .int .i64 0, .int .i64 0, .int .i64 0, .int .i64 0, .int .i64 0, .int .i64 0, .int .i64 0] 22)) wr.heap.size 22 24 (fun _ => 0) := by rw [zvec24]; exact Blk.new _ _ 24 _
      clear hG hE hH1 S0
      go_upto_region 6 with (first | (refine wpList_load_sub rfl 22 _ rfl pd (j * 24) 24 rfl DB (by omega) _ Try.underlying22 rfl icol ?_; rw [HE.out]) | (refine wpList_store_row rfl 22 _ _ rfl (wr.heap.size) _ rfl rfl 22 _ (X1) (icol.trans (by rw [arrv_size])) (by rw [arrv_size, arrv_size]) (oneCell_arrv _ _) ?_))
      have BX : Below wr.heap.size wr ((wr.alloc (.cells #[.int .i64 0, .int .i64 0, .int .i64 0, .int .i64 0, .int .i64 0, .int .i64 0, .int .i64 0, .int .i64 0, .int .i64 0, .int .i64 0, .int .i64 0, .int .i64 0, .int .i64 0, .int .i64 0, .int .i64 0, .int .i64 0, .int .i64 0, .int .i64 0, .int .i64 0, .int .i64 0, .int .i64 0, .int .i64 0, .int .i64 0, .int .i64 0] 22)).setRow wr.heap.size (arrv 24 E)) := below_row (by (repeat (first | with_reducible exact Below.refl _ _ | with_reducible apply Below.drew | (with_reducible refine below_drewN ?_ _) | (with_reducible refine Below.alloc ?_ (by (try simp) <;> omega) _) | (with_reducible refine Below.setCell ?_ (by (try simp) <;> omega) _)))) (Nat.le_refl _) _
      have K1 := Lib.hid (R.out.down BX)
      have X2 := Lib.hid (X1.setRow E)
      have hxb : w.heap.size + 1 < wr.heap.size := R.out.res.lt
      obtain ⟨xb, hxe⟩ : ∃ xb, wr.heap.size = xb := ⟨_, rfl⟩
      generalize (wr.alloc (.cells #[.int .i64 0, .int .i64 0, .int .i64 0, .int .i64 0, .int .i64 0, .int .i64 0, .int .i64 0, .int .i64 0, .int .i64 0, .int .i64 0, .int .i64 0, .int .i64 0, .int .i64 0, .int .i64 0, .int .i64 0, .int .i64 0, .int .i64 0, .int .i64 0, .int .i64 0, .int .i64 0, .int .i64 0, .int .i64 0, .int .i64 0, .int .i64 0] 22)).setRow wr.heap.size (arrv 24 E) = W1 at *
      rw [hxe] at X2 hxb ⊢
      clear hxe BX X1 R DB d1 d2
      go_wp2_with fail
      go_loopw [22] (fun i wr => ∃ k : Nat, k ≤ 24 ∧ i = .int .i64 k ∧ Hid (KpR c (H1 || orB (fun i => addH (G i) (E i)) k) (sumK G E k) w wr ∧ Blk wr xb 22 24 E)) (fun i _ => 24 - (intOf i).toNat)
      case atStart =>
        refine ⟨0, by omega, rfl, ?_, X2.out⟩
        rw [show (H1 || orB (fun i => addH (G i) (E i)) 0) = H1 from by simp [orB]]
        exact ⟨K1.out.upd, K1.out.blk.congr fun i hi => by simp [sumK], K1.out.res⟩
      case round =>
        obtain ⟨k, hk, rfl, R⟩ := hrel
        by_cases hlt4 : k < 24
        · have d3 : decide ((k : Int) < 24) = true := by simp; omega
          have k0 : (0 : Int) ≤ (k : Int) := Int.natCast_nonneg _
          have k1 : (k : Int) < 24 := by omega
          have b0 := R.out.1.blk.cell (i := k) (by omega)
          have hv : sumK G E k k = G k := by simp [sumK]
          rw [hv] at b0
          have x0 := R.out.2.cell (i := k) (by omega)
          obtain ⟨GV, hGV⟩ : ∃ x, G k = x := ⟨_, rfl⟩
          obtain ⟨EV, hEV⟩ : ∃ x, E k = x := ⟨_, rfl⟩
          obtain ⟨H2, hH2⟩ : ∃ x, (H1 || orB (fun i => addH (G i) (E i)) k) = x := ⟨_, rfl⟩
          rw [hGV] at b0
          rw [hEV] at x0
          have HH2 := Lib.hid (And.intro hH2 (And.intro hGV hEV))
          have R2 : Hid (KpR c H2 (sumK G E k) w wr ∧ Blk wr xb 22 24 E) := Lib.hid (by rw [← hH2]; exact R.out)
          clear hv hGV hEV hH2 R
          go_upto_region 9 with fail
          refine wp_region_M (fun w' => w'.cell? ⟨w.heap.size, k, none⟩ = some (.int .i64 GV) ∧ w'.cell? ⟨xb, k, none⟩ = some (.int .i64 EV)) 11 (by kernel_rfl) ?_ (fun hHeld => ?_)
          · exact ⟨b0, x0⟩
          refine wpAnyM_take 0 (v := ?_) rfl (by kernel_rfl) (fun _ _ _ h => h) (Or.inl ⟨by rfl, ?_⟩) (by assumption) ?_
          rotate_left
          · (intro wx hSw; (try dsimp only at hSw); go_simp; (try with_reducible rfl))
          (try simp only [Act.put, List.setIfInBounds_toArray, List.set_cons_zero, List.set_cons_succ])
          refine wpAnyM_take 1 (v := ?_) rfl (by kernel_rfl) (fun _ _ _ h => h) (Or.inl ⟨by rfl, ?_⟩) (by assumption) ?_
          rotate_left
          · (intro wx hSw; (try dsimp only at hSw); go_simp; (try with_reducible rfl))
          (try simp only [Act.put, List.setIfInBounds_toArray, List.set_cons_zero, List.set_cons_succ])
          refine wpAnyM_take 2 (v := ?_) rfl (by kernel_rfl) (fun _ _ _ h => h) (Or.inl ⟨by rfl, ?_⟩) (by assumption) ?_
          rotate_left
          · (intro wx hSw; (try dsimp only at hSw); go_simp; (try with_reducible rfl))
          (try simp only [Act.put, List.setIfInBounds_toArray, List.set_cons_zero, List.set_cons_succ])
          refine wpAnyM_take 3 (v := ?_) rfl (by kernel_rfl) (fun _ _ _ h => h) (Or.inl ⟨by rfl, ?_⟩) (by assumption) ?_
          rotate_left
          · (intro wx hSw; (try dsimp only at hSw); go_simp; (try with_reducible rfl))
          (try simp only [Act.put, List.setIfInBounds_toArray, List.set_cons_zero, List.set_cons_succ])
          refine wpAnyM_take 4 (v := ?_) rfl (by kernel_rfl) (fun _ _ _ h => h) (Or.inl ⟨by rfl, ?_⟩) (by assumption) ?_
          rotate_left
          · (intro wx hSw; (try dsimp only at hSw); go_simp; (try with_reducible rfl))
          (try simp only [Act.put, List.setIfInBounds_toArray, List.set_cons_zero, List.set_cons_succ])
          refine wpAnyM_take 5 (v := ?_) rfl (by kernel_rfl) (fun _ _ _ h => h) (Or.inl ⟨by rfl, ?_⟩) (by assumption) ?_
          rotate_left
          · (intro wx hSw; (try dsimp only at hSw); go_simp; (try with_reducible rfl))
          (try simp only [Act.put, List.setIfInBounds_toArray, List.set_cons_zero, List.set_cons_succ])
          refine wpAnyM_take 6 (v := ?_) rfl (by kernel_rfl) (fun _ _ _ h => h) (Or.inl ⟨by rfl, ?_⟩) (by assumption) ?_
          rotate_left
          · (intro wx hSw; (try dsimp only at hSw); go_simp; (try with_reducible rfl))
          (try simp only [Act.put, List.setIfInBounds_toArray, List.set_cons_zero, List.set_cons_succ])
          refine wpAnyM_take 7 (v := ?_) rfl (by kernel_rfl) (fun _ _ _ h => h) (Or.inl ⟨by rfl, ?_⟩) (by assumption) ?_
          rotate_left
          · (intro wx hSw; (try dsimp only at hSw); go_simp; (try with_reducible rfl))
          (try simp only [Act.put, List.setIfInBounds_toArray, List.set_cons_zero, List.set_cons_succ])
          refine wpAnyM_oneS 8 rfl (by kernel_rfl) (fun K hK => ?_)
          go_simp
          clear hHeld
          refine hK.out _ _ ?_ (fun hHeld => ?_)
          · exact ⟨by simp [World.cell?_alloc_some, b0], by simp [World.cell?_alloc_some, x0]⟩
          clear hK K
          (try simp only [Act.put, List.setIfInBounds_toArray, List.set_cons_zero, List.set_cons_succ])
          refine wpAnyM_oneS 9 rfl (by kernel_rfl) (fun K hK => ?_)
          go_simp
          have hw3 := (Below.refl wr.heap.size wr).drew.alloc (by simp) (.cells #[.int .i64 GV, .int .i64 EV] 2); have R3 := Lib.hid (And.intro (R2.out.1.down hw3) (R2.out.2.below hw3)); (refine (fadd_any c _ (two GV EV) wr.heap.size 0 2 2 _ (R3.out.1.upd.cellc HC.out) ((R3.out.1.upd.frozen hcb).trans HF.out) (by decide) (by intro i hi; obtain rfl | rfl : i = 0 ∨ i = 1 := (by omega); simp [go_sem, two]; simp [go_sem, two])).mono ?_); (rw [(add2 GV EV true).1, (add2 GV EV _).2]); rintro e w4 ⟨rfl, hu4⟩; have S4 := Lib.hid (R3.out.1.upd' hcb hu4); have X4 := Lib.hid (R3.out.2.upd hu4 (by omega)); have f4 := S4.out.blk.free k; have kp := And.intro ((S4.out.blk.cell (i := k) (by omega)).trans (by rw [show sumK G E k k = GV from by rw [← HH2.out.2.1]; simp [sumK]])) ((X4.out.cell (i := k) (by omega)).trans (by rw [HH2.out.2.2])); clear hu4 R3 hw3
          (try dsimp only)
          (try simp only [Act.put, List.setIfInBounds_toArray, List.set_cons_zero, List.set_cons_succ])
          clear hHeld
          refine hK.out _ _ ?_ (fun hHeld => ?_)
          · exact kp
          clear hK K
          (try simp only [Act.put, List.setIfInBounds_toArray, List.set_cons_zero, List.set_cons_succ])
          refine wpAnyM_take 10 (v := ?_) rfl (by kernel_rfl) (fun _ _ _ h => h) (Or.inl ⟨by rfl, ?_⟩) (by assumption) ?_
          rotate_left
          · (intro wx hSw; (try dsimp only at hSw); go_simp; (try with_reducible rfl))
          (try simp only [Act.put, List.setIfInBounds_toArray, List.set_cons_zero, List.set_cons_succ])
          refine wpAnyM_one 11 rfl (by kernel_rfl) (fun K hK => ?_)
          go_simp
          refine hK.out _ _ (.inl (by kernel_rfl)) (fun _ => ?_)
          clear hK K
          (try simp only [Act.put, List.setIfInBounds_toArray, List.set_cons_zero, List.set_cons_succ])
          refine wpAnyM_done (by kernel_rfl) ?_ _
          clear b0 x0 R2
          go_wp2_with fail
          go_roundw
          case rel =>
            refine ⟨k + 1, by omega, by go_num, ⟨?_, ?_, S4.out.res.other (by simp) _⟩, X4.out.other (by simp; omega) _⟩
            · rw [show (H1 || orB (fun i => addH (G i) (E i)) (k + 1)) = (H2 || addH GV EV) from by rw [← HH2.out.1, ← HH2.out.2.1, ← HH2.out.2.2]; simp [orB, Bool.or_assoc]]
              exact S4.out.upd.setCell (Nat.le_refl _) _
            · refine (S4.out.blk.set _ _).congr fun i hi => ?_
              simp only [Go.Proofs.Ytcibndlpnfikhaa.upd, sumK]
              by_cases h1 : i = k
              · subst h1; rw [if_pos rfl, if_pos (by omega), HH2.out.2.1, HH2.out.2.2]
              · rw [if_neg h1]; split <;> split <;> first | rfl | omega
          case measure => simp [intOf]; omega
        · have hk24 : k = 24 := by omega
          subst hk24
          rw [show ((24 : Nat) : Int) = 24 from rfl]
          obtain ⟨T, hT⟩ : ∃ T, sumA G E = T := ⟨_, rfl⟩
          obtain ⟨Y, hY⟩ : ∃ Y, turnd T (uniV T) = Y := ⟨_, rfl⟩
          obtain ⟨H2, hH2⟩ : ∃ x, (H1 || orB (fun i => addH (G i) (E i)) 24) = x := ⟨_, rfl⟩
          have S2 : Hid (KpR c H2 T w wr) := by
            rw [← hH2, ← hT]
            exact Lib.hid ⟨R.out.1.upd, R.out.1.blk.congr fun i hi => by simp only [sumK, sumA]; rw [if_pos hi], R.out.1.res⟩
          have HE2 := Lib.hid (show add1F G E = clmF Y ∧ (H1 || add1H G E) = (H2 || uniH T || clmH Y) by unfold add1F add1H; rw [hT, hY, ← hH2]; exact ⟨rfl, by simp [Bool.or_assoc]⟩)
          have HY := Lib.hid hY
          have P2 := S2.out.blk
          clear R hk hlt4 hT hY hH2 K1 X2
          go_upto_region 11 with fail
          refine wp_region_M (fun w' => Blk w' w.heap.size 23 24 T) 8 (by kernel_rfl) ?_ (fun hHeld => ?_)
          · exact P2.drew
          refine wpAnyM_take 0 (v := ?_) rfl (by kernel_rfl) (fun _ _ _ h => h) (Or.inl ⟨by rfl, ?_⟩) (by assumption) ?_
          rotate_left
          · (intro wx hSw; (try dsimp only at hSw); go_simp; (try with_reducible rfl))
          (try simp only [Act.put, List.setIfInBounds_toArray, List.set_cons_zero, List.set_cons_succ])
          refine wpAnyM_take 1 (v := ?_) rfl (by kernel_rfl) (fun _ _ _ h => h) (Or.inl ⟨by rfl, ?_⟩) (by assumption) ?_
          rotate_left
          · (intro wx hSw; refine Eq.trans (run_load_row 23 (.tmp 4) (by rfl) w.heap.size (by rfl) _ _ _ _ hSw Try.underlying23 rfl (ist.trans (by rw [arrv_size]))) ?_; with_reducible rfl)
          (try simp only [Act.put, List.setIfInBounds_toArray, List.set_cons_zero, List.set_cons_succ])
          refine wpAnyM_take 2 (v := ?_) rfl (by kernel_rfl) (fun _ _ _ h => h) (Or.inl ⟨by rfl, ?_⟩) (by assumption) ?_
          rotate_left
          · (intro wx hSw; (try dsimp only at hSw); go_simp; (try with_reducible rfl))
          (try simp only [Act.put, List.setIfInBounds_toArray, List.set_cons_zero, List.set_cons_succ])
          refine wpAnyM_take 3 (v := ?_) rfl (by kernel_rfl) (fun _ _ _ h => h) (Or.inl ⟨by rfl, ?_⟩) (by assumption) ?_
          rotate_left
          · (intro wx hSw; refine Eq.trans (run_load_row 23 (.tmp 4) (by rfl) w.heap.size (by rfl) _ _ _ _ hSw Try.underlying23 rfl (ist.trans (by rw [arrv_size]))) ?_; with_reducible rfl)
          (try simp only [Act.put, List.setIfInBounds_toArray, List.set_cons_zero, List.set_cons_succ])
          refine wpAnyM_oneS 4 rfl (by kernel_rfl) (fun K hK => ?_)
          go_simp
          (refine (att_any T _).mono ?_); rintro e w3 ⟨rfl, hb3⟩; have S3 := Lib.hid (S2.out.drew.down hb3); clear hb3
          (try dsimp only)
          (try simp only [Act.put, List.setIfInBounds_toArray, List.set_cons_zero, List.set_cons_succ])
          clear hHeld
          refine hK.out _ _ ?_ (fun hHeld => ?_)
          · exact S3.out.blk
          clear hK K
          (try simp only [Act.put, List.setIfInBounds_toArray, List.set_cons_zero, List.set_cons_succ])
          refine wpAnyM_oneS 5 rfl (by kernel_rfl) (fun K hK => ?_)
          go_simp
          (refine (qunit_any c H2 T w3 (S3.out.upd.cellc HC.out) ((S3.out.upd.frozen hcb).trans HF.out)).mono ?_); rintro e w4 ⟨rfl, hu4⟩; have S4 := Lib.hid (S3.out.upd' hcb hu4); clear hu4
          (try dsimp only)
          (try simp only [Act.put, List.setIfInBounds_toArray, List.set_cons_zero, List.set_cons_succ])
          clear hHeld
          refine hK.out _ _ ?_ (fun hHeld => ?_)
          · exact S4.out.blk
          clear hK K
          (try simp only [Act.put, List.setIfInBounds_toArray, List.set_cons_zero, List.set_cons_succ])
          refine wpAnyM_oneS 6 rfl (by kernel_rfl) (fun K hK => ?_)
          go_simp
          (refine (turned_any T (uniV T) _).mono ?_); rintro e w5 ⟨rfl, hb5⟩; have S5 := Lib.hid (S4.out.down hb5); clear hb5; (rw [HY.out])
          (try dsimp only)
          (try simp only [Act.put, List.setIfInBounds_toArray, List.set_cons_zero, List.set_cons_succ])
          clear hHeld
          refine hK.out _ _ ?_ (fun hHeld => ?_)
          · exact S5.out.blk
          clear hK K
          (try simp only [Act.put, List.setIfInBounds_toArray, List.set_cons_zero, List.set_cons_succ])
          refine wpAnyM_oneS 7 rfl (by kernel_rfl) (fun K hK => ?_)
          go_simp
          (refine (clamp24_any c _ Y w5 (S5.out.upd.cellc HC.out) ((S5.out.upd.frozen hcb).trans HF.out)).mono ?_); rintro e w6 ⟨rfl, hu6⟩; have S6 := Lib.hid (S5.out.upd' hcb hu6); have P6 := S6.out.blk; clear hu6
          (try dsimp only)
          (try simp only [Act.put, List.setIfInBounds_toArray, List.set_cons_zero, List.set_cons_succ])
          clear hHeld
          refine hK.out _ _ ?_ (fun hHeld => ?_)
          · exact S6.out.blk
          clear hK K
          (try simp only [Act.put, List.setIfInBounds_toArray, List.set_cons_zero, List.set_cons_succ])
          refine wpAnyM_one 8 rfl (by kernel_rfl) (fun K hK => ?_)
          go_simp; rw [if_pos (arrv_size _ _), run_storeCells_row _ P6]; go_simp
          refine hK.out _ _ (.inl (by kernel_rfl)) (fun _ => ?_)
          clear hK K
          (try simp only [Act.put, List.setIfInBounds_toArray, List.set_cons_zero, List.set_cons_succ])
          refine wpAnyM_done (by kernel_rfl) ?_ _
          have S7 := Lib.hid (S6.out.row (clmF Y))
          generalize w6.setRow w.heap.size (arrv 24 (clmF Y)) = W7 at *
          clear P6 S6 S5 S4 S3 S2 P2
          go_wp2_with fail
          go_roundw
          case rel =>
            refine ⟨j + 1, by omega, by go_num, ?_⟩
            rw [HST.out.1, HST.out.2, HE2.out.1, HE2.out.2]
            exact S7.out
          case measure => simp [intOf]; omega
    · have hjn : j = n := by omega
      subst hjn
      have d1 : decide (j < j) = false := by simp
      have V := R.out.blk
      have X := R.out.res
      have U := Lib.hid R.out.upd
      clear R hlt hj S0
      go_wp2_with (first | (refine wpList_load_row rfl 23 _ rfl (w.heap.size) rfl 23 _ (0, 0) _ (V) Try.underlying23 rfl (ist.trans (by rw [arrv_size])) ?_) | (refine wpList_store_row rfl 23 _ _ rfl (w.heap.size + 1) _ rfl rfl 23 _ (X) (ist.trans (by rw [arrv_size])) (by rw [arrv_size, arrv_size]) (oneCell_arrv _ _) ?_))
      refine bodyPost_ret (results_cell_row Try.results15 _ _ (w.heap.size + 1) 23 (arrv 24 (addNF S D j)) (0, 0) _ rfl (setRow_heap _ _ _ _ _ _ X) Try.underlying23 rfl (ist.trans (by rw [arrv_size]))) rfl ⟨rfl, ?_⟩
      exact U.out.then' (below_row (Below.refl _ _) (by omega) _)
end Go.Proofs.Ytcibndlpnfikhaa
/- awake of chapter 15. -/
namespace Go.Proofs.Ytcibndlpnfikhaa
open Go.RowKit
set_option maxRecDepth 100000
def zeS : Nat → Int := fun _ => 0
def onS : Nat → Int := fun i => if i = 0 then 1073741824 else 0
def d47 : Nat → Int := fun i => if i = 4 then 7 else 0
def t47 : Nat → Int := fun i => if i = 0 then 1073741824 else if i = 4 then 7 else 0
def v7F : Nat → Int := fun i => if i = 0 then 7 else 0
theorem kp0 : (∀ i, i < 24 → keepF zeS i = onS i) ∧ keepH zeS = false := by decide +kernel
theorem ad47 : (∀ i, i < 24 → addNF onS d47 1 i = t47 i) ∧ addNH onS d47 1 = false := by decide +kernel
theorem gd15 : goodB onS = true ∧ goodB zeS = false := by decide +kernel
theorem on24 : (#[.int .i64 1073741824, .int .i64 0, .int .i64 0, .int .i64 0, .int .i64 0, .int .i64 0, .int .i64 0, .int .i64 0, .int .i64 0, .int .i64 0, .int .i64 0, .int .i64 0, .int .i64 0, .int .i64 0, .int .i64 0, .int .i64 0, .int .i64 0, .int .i64 0, .int .i64 0, .int .i64 0, .int .i64 0, .int .i64 0, .int .i64 0, .int .i64 0] : Array Value) = arrv 24 onS := by kernel_rfl
theorem d24 : (#[.int .i64 0, .int .i64 0, .int .i64 0, .int .i64 0, .int .i64 7, .int .i64 0, .int .i64 0, .int .i64 0, .int .i64 0, .int .i64 0, .int .i64 0, .int .i64 0, .int .i64 0, .int .i64 0, .int .i64 0, .int .i64 0, .int .i64 0, .int .i64 0, .int .i64 0, .int .i64 0, .int .i64 0, .int .i64 0, .int .i64 0, .int .i64 0] : Array Value) = arrv 24 d47 := by kernel_rfl
theorem ze24 : (#[.int .i64 0, .int .i64 0, .int .i64 0, .int .i64 0, .int .i64 0, .int .i64 0, .int .i64 0, .int .i64 0, .int .i64 0, .int .i64 0, .int .i64 0, .int .i64 0, .int .i64 0, .int .i64 0, .int .i64 0, .int .i64 0, .int .i64 0, .int .i64 0, .int .i64 0, .int .i64 0, .int .i64 0, .int .i64 0, .int .i64 0, .int .i64 0] : Array Value) = arrv 24 zeS := by kernel_rfl
theorem v73 : (#[.int .i64 7, .int .i64 0, .int .i64 0] : Array Value) = arrv 3 v7F := by kernel_rfl
structure Aw15 (sb tb : Nat) (w w' : World) : Prop where
  below : Below w.heap.size w w'
  flg : Flg w' w.heap.size false
  s : Blk w' sb 23 24 onS
  t : Blk w' tb 23 24 t47
theorem Aw15.down {sb tb : Nat} {w w1 w2 : World} (a : Aw15 sb tb w w1) (u : Below w1.heap.size w1 w2) : Aw15 sb tb w w2 := ⟨Below.after a.below u, a.flg.below u, a.s.below u, a.t.below u⟩
theorem Aw15.alloc {sb tb : Nat} {w w1 : World} (a : Aw15 sb tb w w1) (o : Obj) : Aw15 sb tb w (w1.alloc o) := a.down ((Below.refl _ _).alloc (Nat.le_refl _) o)
def l12 : Nat → Int := fun i => if i = 0 then 1 else 2
theorem eq15 : eqB 24 onS onS = true ∧ eqB 3 (partF t47 4) v7F = true ∧ eqB 4 onS oneQ = true ∧ withF onS 7 2 l12 8 = 2 ∧ boxF 4 = 549755813888 := by decide +kernel
/-- A block of zeros made, and filled. -/
theorem st_made (w1 : World) (g : Nat → Int) (w2 : World) (e : w2 = (w1.alloc (.cells #[.int .i64 0, .int .i64 0, .int .i64 0, .int .i64 0, .int .i64 0, .int .i64 0, .int .i64 0, .int .i64 0, .int .i64 0, .int .i64 0, .int .i64 0, .int .i64 0, .int .i64 0, .int .i64 0, .int .i64 0, .int .i64 0, .int .i64 0, .int .i64 0, .int .i64 0, .int .i64 0, .int .i64 0, .int .i64 0, .int .i64 0, .int .i64 0] 23)).setRow w1.heap.size (arrv 24 g)) : Blk w2 w1.heap.size 23 24 g ∧ Below w1.heap.size w1 w2 :=
  Blk.made (T := 23) zvec24 g e
set_option maxHeartbeats 8000000 in
theorem awake15_any (w : World) : Calls Try.prog 4 #[] w fun e w' => e = .returned (.bool true) ∧ Below w.heap.size w w' := by
  go_enter Try.func4, Try.ntmps4
  have F0 : Flg (w.alloc (.cells #[.bool false] 42)) w.heap.size false := Flg.new w false
  have B0 : Below w.heap.size w (w.alloc (.cells #[.bool false] 42)) := by (repeat (first | with_reducible exact Below.refl _ _ | with_reducible apply Below.drew | (with_reducible refine below_drewN ?_ _) | (with_reducible refine Below.alloc ?_ (by (try simp) <;> omega) _) | (with_reducible refine Below.setCell ?_ (by (try simp) <;> omega) _)))
  have F0 := Lib.hid F0
  have B0 := Lib.hid B0
  go_upto_region 2 with fail
  generalize w.alloc (.cells #[.bool false] 42) = W0 at *
  have K0 := Lib.hid (keep_any ⟨w.heap.size, 0, none⟩ false zeS W0 F0.out.cell F0.out.free)
  go_upto_region 3 with (first | (go_at_call 13; (rw [ze24]); (refine K0.out.mono ?_); rintro e w1 ⟨rfl, hu1⟩; (rw [arrv_congr kp0.1]); (rw [kp0.2] at hu1); replace hu1 : Upd ⟨w.heap.size, 0, none⟩ false W0 w1 := hu1; have F1 := Lib.hid (F0.out.hit hu1); have B1 := Lib.hid (own_upd B0.out (Nat.le_refl _) hu1); have R1 : Blk (w1.alloc (.cells #[.int .i64 0, .int .i64 0, .int .i64 0, .int .i64 0, .int .i64 0, .int .i64 0, .int .i64 0, .int .i64 0, .int .i64 0, .int .i64 0, .int .i64 0, .int .i64 0, .int .i64 0, .int .i64 0, .int .i64 0, .int .i64 0, .int .i64 0, .int .i64 0, .int .i64 0, .int .i64 0, .int .i64 0, .int .i64 0, .int .i64 0, .int .i64 0] 23)) w1.heap.size 23 24 (fun _ => 0) := (by rw [zvec24]; exact Blk.new _ _ 24 _); clear hu1) | (refine wpList_store_row rfl 23 _ _ rfl (w1.heap.size) _ rfl rfl 23 _ (R1) (ist.trans (by rw [arrv_size])) (by rw [arrv_size, arrv_size]) (oneCell_arrv _ _) ?_))
  obtain ⟨w2, hw2⟩ : ∃ x, x = (w1.alloc (.cells #[.int .i64 0, .int .i64 0, .int .i64 0, .int .i64 0, .int .i64 0, .int .i64 0, .int .i64 0, .int .i64 0, .int .i64 0, .int .i64 0, .int .i64 0, .int .i64 0, .int .i64 0, .int .i64 0, .int .i64 0, .int .i64 0, .int .i64 0, .int .i64 0, .int .i64 0, .int .i64 0, .int .i64 0, .int .i64 0, .int .i64 0, .int .i64 0] 23)).setRow w1.heap.size (arrv 24 onS) := ⟨_, rfl⟩
  rw [← hw2]
  obtain ⟨S2, MB2⟩ := st_made w1 onS w2 hw2
  have F2 := Lib.hid (F1.out.below MB2)
  have B2 := Lib.hid (Below.after B1.out MB2)
  have hs1 : w.heap.size < w1.heap.size := F1.out.lt
  obtain ⟨sb, hsb⟩ : ∃ sb, w1.heap.size = sb := ⟨_, rfl⟩
  rw [hsb] at S2 hs1 ⊢
  have HS2 := Lib.hid S2
  clear hw2 hsb R1 MB2 F1 B1 F0 B0 K0
  have DB : Blk (w2.alloc (.cells (arrv 24 d47) 22)) w2.heap.size 22 (24 * 1) d47 := Blk.new _ _ 24 _
  have F3 := Lib.hid (F2.out.alloc (.cells (arrv 24 d47) 22))
  have B3 := Lib.hid (B2.out.alloc B2.out.size (.cells (arrv 24 d47) 22))
  have S3 := Lib.hid (HS2.out.alloc (.cells (arrv 24 d47) 22))
  have A3 := Lib.hid (sadd_any ⟨w.heap.size, 0, none⟩ false onS d47 w2.heap.size 1 1 _ F3.out.cell F3.out.free (by decide) (by decide) DB)
  clear DB
  go_upto_region 4 with (first | (refine wpList_load_row rfl 23 _ rfl (sb) rfl 23 _ (0, 0) _ (S2) Try.underlying23 rfl (ist.trans (by rw [arrv_size])) ?_) | (go_at_call 15; (rw [d24]); (refine A3.out.mono ?_); rintro e w4 ⟨rfl, hu4⟩; (rw [arrv_congr ad47.1]); (rw [ad47.2] at hu4); replace hu4 : Upd ⟨w.heap.size, 0, none⟩ false _ w4 := hu4; have F4 := Lib.hid (F3.out.hit hu4); have B4 := Lib.hid (own_upd B3.out (Nat.le_refl _) hu4); have S4 := Lib.hid (S3.out.upd hu4 (by show sb ≠ w.heap.size; omega)); have R4 : Blk (w4.alloc (.cells #[.int .i64 0, .int .i64 0, .int .i64 0, .int .i64 0, .int .i64 0, .int .i64 0, .int .i64 0, .int .i64 0, .int .i64 0, .int .i64 0, .int .i64 0, .int .i64 0, .int .i64 0, .int .i64 0, .int .i64 0, .int .i64 0, .int .i64 0, .int .i64 0, .int .i64 0, .int .i64 0, .int .i64 0, .int .i64 0, .int .i64 0, .int .i64 0] 23)) w4.heap.size 23 24 (fun _ => 0) := (by rw [zvec24]; exact Blk.new _ _ 24 _); clear hu4) | (refine wpList_store_row rfl 23 _ _ rfl (w4.heap.size) _ rfl rfl 23 _ (R4) (ist.trans (by rw [arrv_size])) (by rw [arrv_size, arrv_size]) (oneCell_arrv _ _) ?_))
  obtain ⟨w5, hw5⟩ : ∃ x, x = (w4.alloc (.cells #[.int .i64 0, .int .i64 0, .int .i64 0, .int .i64 0, .int .i64 0, .int .i64 0, .int .i64 0, .int .i64 0, .int .i64 0, .int .i64 0, .int .i64 0, .int .i64 0, .int .i64 0, .int .i64 0, .int .i64 0, .int .i64 0, .int .i64 0, .int .i64 0, .int .i64 0, .int .i64 0, .int .i64 0, .int .i64 0, .int .i64 0, .int .i64 0] 23)).setRow w4.heap.size (arrv 24 t47) := ⟨_, rfl⟩
  rw [← hw5]
  obtain ⟨T5, MB5⟩ := st_made w4 t47 w5 hw5
  have F5 := Lib.hid (F4.out.below MB5)
  have B5 := Lib.hid (Below.after B4.out MB5)
  have S5 := Lib.hid (S4.out.below MB5)
  have ht1 : w.heap.size < w4.heap.size := F4.out.lt
  obtain ⟨tb, htb⟩ : ∃ tb, w4.heap.size = tb := ⟨_, rfl⟩
  rw [htb] at T5 ht1 ⊢
  have T5 := Lib.hid T5
  have R5 : Hid (Aw15 sb tb w w5) := Lib.hid ⟨B5.out, F5.out, S5.out, T5.out⟩
  clear hw5 htb R4 MB5 F4 B4 S4 F3 B3 S3 F2 B2 HS2 S2 A3 F5 B5 S5 T5
  have S5 := R5.out.s
  have E := Lib.hid eq15
  have GD := Lib.hid gd15
  refine wp_region_lit ?_
  refine wpList_val (v := ?_) rfl ?_ ?_
  rotate_left
  · refine Eq.trans (run_load_row 23 (.tmp 2) (by rfl) (sb) (by rfl) _ _ _ _ (S5) Try.underlying23 rfl (ist.trans (by rw [arrv_size]))) ?_; with_reducible rfl
  (try simp only [Act.put, List.setIfInBounds_toArray, List.set_cons_zero, List.set_cons_succ])
  refine wpList_val (v := ?_) rfl ?_ ?_
  rotate_left
  · (go_simp; (try (first | with_reducible rfl | (constructor <;> with_reducible rfl))))
  (try simp only [Act.put, List.setIfInBounds_toArray, List.set_cons_zero, List.set_cons_succ])
  refine wpList_val (v := ?_) rfl ?_ ?_
  rotate_left
  · refine Eq.trans (run_op_eqlVec Try.underlying23 (by kernel_rfl) (.tmp 14) (.tmp 15) (by rfl) (by rfl) (g := onS) (by rw [← on24]; rfl) E.out.1) ?_; with_reducible rfl
  (try simp only [Act.put, List.setIfInBounds_toArray, List.set_cons_zero, List.set_cons_succ])
  refine wpList_val (v := ?_) rfl ?_ ?_
  rotate_left
  · (go_simp; (try (first | with_reducible rfl | (constructor <;> with_reducible rfl))))
  (try simp only [Act.put, List.setIfInBounds_toArray, List.set_cons_zero, List.set_cons_succ])
  first | (refine wpList_val (v := ?_) (by rfl) ?_ ?_; rotate_left; focus (refine Eq.trans (run_load_row 23 (.tmp 2) (by rfl) (sb) (by rfl) _ _ _ _ (S5) Try.underlying23 rfl (ist.trans (by rw [arrv_size]))) ?_; with_reducible rfl)) | refine wpList_skip (by rfl) ?_
  (try simp only [Act.put, List.setIfInBounds_toArray, List.set_cons_zero, List.set_cons_succ])
  refine wpList_step (fun K hK => ?_)
  go_simp
  (refine (sgood_any onS _).mono ?_); rintro e w6 ⟨rfl, hb6⟩; (rw [GD.out.1]); have R6 := Lib.hid (R5.out.down hb6); clear hb6 S5 R5
  (try dsimp only)
  (try simp only [Act.put, List.setIfInBounds_toArray, List.set_cons_zero, List.set_cons_succ])
  refine hK _ _ ?_
  clear hK K
  refine wpList_val (v := ?_) rfl ?_ ?_
  rotate_left
  · (go_simp; (try (first | with_reducible rfl | (constructor <;> with_reducible rfl))))
  (try simp only [Act.put, List.setIfInBounds_toArray, List.set_cons_zero, List.set_cons_succ])
  refine wpList_val (v := ?_) rfl ?_ ?_
  rotate_left
  · (go_simp; (try (first | with_reducible rfl | (constructor <;> with_reducible rfl))))
  (try simp only [Act.put, List.setIfInBounds_toArray, List.set_cons_zero, List.set_cons_succ])
  first | (refine wpList_val (v := ?_) (by rfl) ?_ ?_; rotate_left; focus ((go_simp; (try (first | with_reducible rfl | (constructor <;> with_reducible rfl)))))) | refine wpList_skip (by rfl) ?_
  (try simp only [Act.put, List.setIfInBounds_toArray, List.set_cons_zero, List.set_cons_succ])
  refine wpList_step (fun K hK => ?_)
  go_simp
  (rw [ze24]); (refine (sgood_any zeS _).mono ?_); rintro e w7 ⟨rfl, hb7⟩; (rw [GD.out.2]); have R7 := Lib.hid (R6.out.down hb7); have T7 := R7.out.t; have t7 := T7.cell (i := 4) (by decide); replace t7 : w7.cell? ⟨tb, 4, none⟩ = some (.int .i64 7) := t7; clear hb7 R6
  (try dsimp only)
  (try simp only [Act.put, List.setIfInBounds_toArray, List.set_cons_zero, List.set_cons_succ])
  refine hK _ _ ?_
  clear hK K
  first | (refine wpList_val (v := ?_) (by rfl) ?_ ?_; rotate_left; focus ((go_simp; (try (first | with_reducible rfl | (constructor <;> with_reducible rfl)))))) | refine wpList_skip (by rfl) ?_
  (try simp only [Act.put, List.setIfInBounds_toArray, List.set_cons_zero, List.set_cons_succ])
  refine wpList_val (v := ?_) rfl ?_ ?_
  rotate_left
  · (go_simp; (try (first | with_reducible rfl | (constructor <;> with_reducible rfl))))
  (try simp only [Act.put, List.setIfInBounds_toArray, List.set_cons_zero, List.set_cons_succ])
  refine wpList_val (v := ?_) rfl ?_ ?_
  rotate_left
  · (go_simp; (try (first | with_reducible rfl | (constructor <;> with_reducible rfl))))
  (try simp only [Act.put, List.setIfInBounds_toArray, List.set_cons_zero, List.set_cons_succ])
  first | (refine wpList_val (v := ?_) (by rfl) ?_ ?_; rotate_left; focus ((go_simp; (try (first | with_reducible rfl | (constructor <;> with_reducible rfl)))))) | refine wpList_skip (by rfl) ?_
  (try simp only [Act.put, List.setIfInBounds_toArray, List.set_cons_zero, List.set_cons_succ])
  first | (refine wpList_val (v := ?_) (by rfl) ?_ ?_; rotate_left; focus ((go_simp; (try (first | with_reducible rfl | (constructor <;> with_reducible rfl)))))) | refine wpList_skip (by rfl) ?_
  (try simp only [Act.put, List.setIfInBounds_toArray, List.set_cons_zero, List.set_cons_succ])
  first | (refine wpList_val (v := ?_) (by rfl) ?_ ?_; rotate_left; focus ((go_simp; (try (first | with_reducible rfl | (constructor <;> with_reducible rfl)))))) | refine wpList_skip (by rfl) ?_
  (try simp only [Act.put, List.setIfInBounds_toArray, List.set_cons_zero, List.set_cons_succ])
  refine wpList_val (v := ?_) rfl ?_ ?_
  rotate_left
  · (go_simp; (try (first | with_reducible rfl | (constructor <;> with_reducible rfl))))
  (try simp only [Act.put, List.setIfInBounds_toArray, List.set_cons_zero, List.set_cons_succ])
  refine wpList_val (v := ?_) rfl ?_ ?_
  rotate_left
  · (go_simp; (try (first | with_reducible rfl | (constructor <;> with_reducible rfl))))
  (try simp only [Act.put, List.setIfInBounds_toArray, List.set_cons_zero, List.set_cons_succ])
  first | (refine wpList_val (v := ?_) (by rfl) ?_ ?_; rotate_left; focus (refine Eq.trans (run_load_row 23 (.tmp 3) (by rfl) (tb) (by rfl) _ _ _ _ (T7) Try.underlying23 rfl (ist.trans (by rw [arrv_size]))) ?_; with_reducible rfl)) | refine wpList_skip (by rfl) ?_
  (try simp only [Act.put, List.setIfInBounds_toArray, List.set_cons_zero, List.set_cons_succ])
  refine wpList_step (fun K hK => ?_)
  go_simp
  (refine (part_any t47 4 _ (by decide) (by decide)).mono ?_); rintro e w8 ⟨rfl, hb8⟩; have R8 := Lib.hid (R7.out.down hb8); have S8 := R8.out.s; clear hb8 R7 T7 t7
  (try dsimp only)
  (try simp only [Act.put, List.setIfInBounds_toArray, List.set_cons_zero, List.set_cons_succ])
  refine hK _ _ ?_
  clear hK K
  first | (refine wpList_val (v := ?_) (by rfl) ?_ ?_; rotate_left; focus ((go_simp; (try (first | with_reducible rfl | (constructor <;> with_reducible rfl)))))) | refine wpList_skip (by rfl) ?_
  (try simp only [Act.put, List.setIfInBounds_toArray, List.set_cons_zero, List.set_cons_succ])
  first | (refine wpList_val (v := ?_) (by rfl) ?_ ?_; rotate_left; focus (refine Eq.trans (run_op_eqlVec Try.underlying33 (by kernel_rfl) (.tmp 33) (.tmp 34) (by rfl) (by rfl) (g := v7F) (by rw [← v73]; rfl) E.out.2.1) ?_; with_reducible rfl)) | refine wpList_skip (by rfl) ?_
  (try simp only [Act.put, List.setIfInBounds_toArray, List.set_cons_zero, List.set_cons_succ])
  refine wpList_val (v := ?_) rfl ?_ ?_
  rotate_left
  · (go_simp; (try (first | with_reducible rfl | (constructor <;> with_reducible rfl))))
  (try simp only [Act.put, List.setIfInBounds_toArray, List.set_cons_zero, List.set_cons_succ])
  refine wpList_val (v := ?_) rfl ?_ ?_
  rotate_left
  · (go_simp; (try (first | with_reducible rfl | (constructor <;> with_reducible rfl))))
  (try simp only [Act.put, List.setIfInBounds_toArray, List.set_cons_zero, List.set_cons_succ])
  first | (refine wpList_val (v := ?_) (by rfl) ?_ ?_; rotate_left; focus (refine Eq.trans (run_load_row 23 (.tmp 2) (by rfl) (sb) (by rfl) _ _ _ _ (S8) Try.underlying23 rfl (ist.trans (by rw [arrv_size]))) ?_; with_reducible rfl)) | refine wpList_skip (by rfl) ?_
  (try simp only [Act.put, List.setIfInBounds_toArray, List.set_cons_zero, List.set_cons_succ])
  refine wpList_act (v := ?_) (w' := ?_) (by rfl) ?_ ?_
  rotate_left 2
  · (go_simp; (try (first | with_reducible rfl | (constructor <;> with_reducible rfl))))
  (try simp only [Act.put, List.setIfInBounds_toArray, List.set_cons_zero, List.set_cons_succ])
  refine wpList_step (fun K hK => ?_)
  go_simp
  have L9 : Slc (w8.alloc (.cells #[.int .i64 1, .int .i64 2] 2)) (some ⟨w8.heap.size, 0, none⟩) 2 l12 := (by intro i hi; obtain rfl | rfl : i = 0 ∨ i = 1 := (by omega); exact ⟨_, _, rfl, by simp [go_sem, l12]⟩; exact ⟨_, _, rfl, by simp [go_sem, l12]⟩); (refine (swith_any onS 7 _ 2 _ l12 _ (by decide) (by decide) (by decide) L9).mono ?_); rintro e w9 ⟨rfl, hb9⟩; have R9 := Lib.hid ((R8.out.alloc _).down hb9); have S9 := R9.out.s; clear hb9 R8 S8 L9
  (try dsimp only)
  (try simp only [Act.put, List.setIfInBounds_toArray, List.set_cons_zero, List.set_cons_succ])
  refine hK _ _ ?_
  clear hK K
  first | (refine wpList_val (v := ?_) (by rfl) ?_ ?_; rotate_left; focus (refine Eq.trans (run_index_vec Try.underlying23 (.tmp 40) (.const (.int .i64 8)) (by rfl) (by rfl) 8 (by rfl) (by omega)) ?_; rw [E.out.2.2.2.1])) | refine wpList_skip (by rfl) ?_
  (try simp only [Act.put, List.setIfInBounds_toArray, List.set_cons_zero, List.set_cons_succ])
  first | (refine wpList_val (v := ?_) (by rfl) ?_ ?_; rotate_left; focus ((go_simp; (try (first | with_reducible rfl | (constructor <;> with_reducible rfl)))))) | refine wpList_skip (by rfl) ?_
  (try simp only [Act.put, List.setIfInBounds_toArray, List.set_cons_zero, List.set_cons_succ])
  refine wpList_val (v := ?_) rfl ?_ ?_
  rotate_left
  · (go_simp; (try (first | with_reducible rfl | (constructor <;> with_reducible rfl))))
  (try simp only [Act.put, List.setIfInBounds_toArray, List.set_cons_zero, List.set_cons_succ])
  refine wpList_val (v := ?_) rfl ?_ ?_
  rotate_left
  · (go_simp; (try (first | with_reducible rfl | (constructor <;> with_reducible rfl))))
  (try simp only [Act.put, List.setIfInBounds_toArray, List.set_cons_zero, List.set_cons_succ])
  first | (refine wpList_val (v := ?_) (by rfl) ?_ ?_; rotate_left; focus (refine Eq.trans (run_load_row 23 (.tmp 2) (by rfl) (sb) (by rfl) _ _ _ _ (S9) Try.underlying23 rfl (ist.trans (by rw [arrv_size]))) ?_; with_reducible rfl)) | refine wpList_skip (by rfl) ?_
  (try simp only [Act.put, List.setIfInBounds_toArray, List.set_cons_zero, List.set_cons_succ])
  refine wpList_step (fun K hK => ?_)
  go_simp
  (refine (att_any onS _).mono ?_); rintro e w10 ⟨rfl, hb10⟩; have R10 := Lib.hid (R9.out.down hb10); clear hb10 R9 S9
  (try dsimp only)
  (try simp only [Act.put, List.setIfInBounds_toArray, List.set_cons_zero, List.set_cons_succ])
  refine hK _ _ ?_
  clear hK K
  refine wpList_step (fun K hK => ?_)
  go_simp
  (refine (qone_any _).mono ?_); rintro e w11 ⟨rfl, hb11⟩; have R11 := Lib.hid (R10.out.down hb11); clear hb11 R10
  (try dsimp only)
  (try simp only [Act.put, List.setIfInBounds_toArray, List.set_cons_zero, List.set_cons_succ])
  refine hK _ _ ?_
  clear hK K
  first | (refine wpList_val (v := ?_) (by rfl) ?_ ?_; rotate_left; focus (refine Eq.trans (run_op_eqlVec Try.underlying28 (by kernel_rfl) (.tmp 46) (.tmp 47) (by rfl) (by rfl) (by rfl) E.out.2.2.1) ?_; with_reducible rfl)) | refine wpList_skip (by rfl) ?_
  (try simp only [Act.put, List.setIfInBounds_toArray, List.set_cons_zero, List.set_cons_succ])
  refine wpList_val (v := ?_) rfl ?_ ?_
  rotate_left
  · (go_simp; (try (first | with_reducible rfl | (constructor <;> with_reducible rfl))))
  (try simp only [Act.put, List.setIfInBounds_toArray, List.set_cons_zero, List.set_cons_succ])
  refine wpList_val (v := ?_) rfl ?_ ?_
  rotate_left
  · (go_simp; (try (first | with_reducible rfl | (constructor <;> with_reducible rfl))))
  (try simp only [Act.put, List.setIfInBounds_toArray, List.set_cons_zero, List.set_cons_succ])
  refine wpList_step (fun K hK => ?_)
  go_simp
  (refine (bounds_any _).mono ?_); rintro e w12 ⟨rfl, hb12⟩; have R12 := Lib.hid (R11.out.down hb12); have f12 := R12.out.flg.cell; clear hb12 R11
  (try dsimp only)
  (try simp only [Act.put, List.setIfInBounds_toArray, List.set_cons_zero, List.set_cons_succ])
  refine hK _ _ ?_
  clear hK K
  first | (refine wpList_val (v := ?_) (by rfl) ?_ ?_; rotate_left; focus (refine Eq.trans (run_index_vec Try.underlying37 (.tmp 51) (.const (.int .i64 4)) (by rfl) (by rfl) 4 (by rfl) (by omega)) ?_; rw [E.out.2.2.2.2])) | refine wpList_skip (by rfl) ?_
  (try simp only [Act.put, List.setIfInBounds_toArray, List.set_cons_zero, List.set_cons_succ])
  first | (refine wpList_val (v := ?_) (by rfl) ?_ ?_; rotate_left; focus ((go_simp; (try (first | with_reducible rfl | (constructor <;> with_reducible rfl)))))) | refine wpList_skip (by rfl) ?_
  (try simp only [Act.put, List.setIfInBounds_toArray, List.set_cons_zero, List.set_cons_succ])
  refine wpList_val (v := ?_) rfl ?_ ?_
  rotate_left
  · (go_simp; (try (first | with_reducible rfl | (constructor <;> with_reducible rfl))))
  (try simp only [Act.put, List.setIfInBounds_toArray, List.set_cons_zero, List.set_cons_succ])
  refine wpList_val (v := ?_) rfl ?_ ?_
  rotate_left
  · (go_simp; (try (first | with_reducible rfl | (constructor <;> with_reducible rfl))))
  (try simp only [Act.put, List.setIfInBounds_toArray, List.set_cons_zero, List.set_cons_succ])
  first | (refine wpList_val (v := ?_) (by rfl) ?_ ?_; rotate_left; focus ((go_simp; (try (first | with_reducible rfl | (constructor <;> with_reducible rfl)))))) | refine wpList_skip (by rfl) ?_
  (try simp only [Act.put, List.setIfInBounds_toArray, List.set_cons_zero, List.set_cons_succ])
  first | (refine wpList_val (v := ?_) (by rfl) ?_ ?_; rotate_left; focus ((go_simp; (try (first | with_reducible rfl | (constructor <;> with_reducible rfl)))))) | refine wpList_skip (by rfl) ?_
  (try simp only [Act.put, List.setIfInBounds_toArray, List.set_cons_zero, List.set_cons_succ])
  first | (refine wpList_val (v := ?_) (by rfl) ?_ ?_; rotate_left; focus ((go_simp; (try (first | with_reducible rfl | (constructor <;> with_reducible rfl)))))) | refine wpList_skip (by rfl) ?_
  (try simp only [Act.put, List.setIfInBounds_toArray, List.set_cons_zero, List.set_cons_succ])
  first | (refine wpList_val (v := ?_) (by rfl) ?_ ?_; rotate_left; focus ((go_simp; (try (first | with_reducible rfl | (constructor <;> with_reducible rfl)))))) | refine wpList_skip (by rfl) ?_
  (try simp only [Act.put, List.setIfInBounds_toArray, List.set_cons_zero, List.set_cons_succ])
  first | (refine wpList_val (v := ?_) (by rfl) ?_ ?_; rotate_left; focus ((go_simp; (try (first | with_reducible rfl | (constructor <;> with_reducible rfl)))))) | refine wpList_skip (by rfl) ?_
  (try simp only [Act.put, List.setIfInBounds_toArray, List.set_cons_zero, List.set_cons_succ])
  refine wpList_val (v := ?_) rfl ?_ ?_
  rotate_left
  · (go_simp; (try (first | with_reducible rfl | (constructor <;> with_reducible rfl))))
  (try simp only [Act.put, List.setIfInBounds_toArray, List.set_cons_zero, List.set_cons_succ])
  refine wpList_val (v := ?_) rfl ?_ ?_
  rotate_left
  · (go_simp; (try (first | with_reducible rfl | (constructor <;> with_reducible rfl))))
  (try simp only [Act.put, List.setIfInBounds_toArray, List.set_cons_zero, List.set_cons_succ])
  refine wpList_nil ?_
  go_wp2_with fail
  go_ret
  exact ⟨rfl, R12.out.below⟩
end Go.Proofs.Ytcibndlpnfikhaa
