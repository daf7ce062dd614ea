/- Contract of state.unit. -/
import Derived.Test.YtcbklolfibdffaaSt2
import Derived.Test.YtcbklolfibdffaaWad4
import Derived.Test.YtcbklolfibdffaaUnB
namespace Go.Proofs.Ytcbklolfibdffaa
open Go.RowKit
set_option maxRecDepth 100000
theorem fabs_any (a : Int) (w : World) : Calls Try.prog 22 #[.int .i64 a] w fun e w' => e = .returned (.int .i64 (absV a)) ∧ w = w' := by
  by_cases ha : 1152921504606846976 ≤ a
  · have e : absV a = 1152921504606846976 := by unfold absV; rw [if_pos (.inl ha)]
    have d1 : decide (1152921504606846976 ≤ a) = true := by simpa using ha
    have E := Lib.hid e
    clear e
    go_enter Try.func22, Try.ntmps22
    go_wp2_with fail
    go_ret
    exact ⟨retI E.out.symm, rfl⟩
  · have d1 : decide (1152921504606846976 ≤ a) = false := by simpa using ha
    by_cases hb : a ≤ -1152921504606846976
    · have e : absV a = 1152921504606846976 := by unfold absV; rw [if_pos (.inr hb)]
      have d2 : decide (a ≤ -1152921504606846976) = true := by simpa using hb
      have E := Lib.hid e
      clear e
      go_enter Try.func22, Try.ntmps22
      go_wp2_with fail
      go_ret
      exact ⟨retI E.out.symm, rfl⟩
    · have d2 : decide (a ≤ -1152921504606846976) = false := by simpa using hb
      by_cases hz : a < 0
      · have e : absV a = -a := by unfold absV; rw [if_neg (by omega), if_pos hz]
        have d3 : decide (a < 0) = true := by simpa using hz
        have E := Lib.hid e
        clear e
        go_enter Try.func22, Try.ntmps22
        go_wp2_with fail
        go_ret
        exact ⟨retI E.out.symm, rfl⟩
      · have e : absV a = a := by unfold absV; rw [if_neg (by omega), if_neg hz]
        have d3 : decide (a < 0) = false := by simpa using hz
        have E := Lib.hid e
        clear e
        go_enter Try.func22, Try.ntmps22
        go_wp2_with fail
        go_ret
        exact ⟨retI E.out.symm, rfl⟩
/-- The cells of n numbers of 128 bits. -/
def wcells (n : Nat) (L : Nat → Int) : List Value := (List.range n).flatMap fun i => [.int .i64 (hi64 (L i)), .int .u64 (lo64 (L i))]
theorem wcells_succ (n : Nat) (L : Nat → Int) : wcells (n + 1) L = wcells n L ++ [.int .i64 (hi64 (L n)), .int .u64 (lo64 (L n))] := by
  simp [wcells, List.range_succ, List.flatMap_append]
def OwnW (w : World) (B : Nat) (v : Value) (n : Nat) (L : Nat → Int) : Prop := w.ownsRow B 54 2 v n (wcells n L)
theorem OwnW.nil (w : World) (B : Nat) (L : Nat → Int) : OwnW w B (.slice none 0 0) 0 L := World.ownsRow_nil w B 54 2
theorem OwnW.below {w w' : World} {B : Nat} {v : Value} {n : Nat} {L : Nat → Int} (h : OwnW w B v n L) (b : Below w.heap.size w w') : OwnW w' B v n L := by
  refine ⟨h.1, ?_⟩
  rcases h.2 with hn | ⟨g, cap, cur, rfl, hb, hgg, rest⟩
  · exact .inl hn
  · refine .inr ⟨g, cap, cur, rfl, hb, ?_, rest⟩
    rw [b.block g (Array.getElem?_eq_some_iff.1 hgg).1]
    exact hgg
theorem OwnW.alloc {w : World} {B : Nat} {v : Value} {n : Nat} {L : Nat → Int} (h : OwnW w B v n L) (o : Obj) : OwnW (w.alloc o) B v n L := h.below ((Below.refl _ _).alloc (Nat.le_refl _) o)
/-- Four of them, as cells. -/
theorem OwnW.four {w : World} {B : Nat} {v : Value} {L : Nat → Int} (h : OwnW w B v 4 L) :
    ∃ g cp, v = .slice (some ⟨g, 0, none⟩) 4 cp ∧ ∀ i, i < 4 → w.cell? ⟨g, 2 * i, none⟩ = some (.int .i64 (hi64 (L i))) ∧ w.cell? ⟨g, 2 * i + 1, none⟩ = some (.int .u64 (lo64 (L i))) := by
  rcases h.2 with ⟨_, h0⟩ | ⟨g, cap, cur, rfl, hb, hgg, h1, h2, h3, h4⟩
  · omega
  · refine ⟨g, cap, rfl, fun i hi => ?_⟩
    have hc : ∀ j v, (wcells 4 L)[j]? = some v → w.cell? ⟨g, j, none⟩ = some v := fun j v hj => by
      rw [cell_of_row w g j cur 54 (0, 0) hgg]
      rw [← h4, List.getElem?_take] at hj
      split at hj
      · simpa using hj
      · cases hj
    obtain rfl | rfl | rfl | rfl : i = 0 ∨ i = 1 ∨ i = 2 ∨ i = 3 := by omega
    all_goals exact ⟨hc _ _ rfl, hc _ _ rfl⟩
theorem info_W' : ∃ i, Try.prog.info? 54 = some i ∧ i.zero = some (.agg #[.int .i64 0, .int .u64 0]) ∧ i.size = 2 ∧ i.bytes = 16 := by
  have h : (Try.prog.info? 54).map (fun i => (i.zero, i.size, i.bytes)) = some (some (.agg #[.int .i64 0, .int .u64 0]), 2, 16) := by kernel_rfl
  cases e : Try.prog.info? 54 with
  | none => rw [e] at h; cases h
  | some i => rw [e] at h; simp at h; exact ⟨i, rfl, h.1, h.2.1, h.2.2⟩
theorem wpList_appW {w : World} {ops : Array Oper} {rest : List Oper} {o : Oper} {a : Act} {Q : Exit → Act → World → Prop} (hgd : o.guard = none) (s x : Operand)
    (ho : o.op = .call { callee := .builtin .append, args := #[s, x], argTypes := #[50, 50] })
    (B : Nat) {v : Value} {n : Nat} {L : Nat → Int} (hs : a.eval s = v) (hown : OwnW w B v n L) (nb c : Nat) (hx : a.eval x = .slice (some ⟨nb, 0, none⟩) 1 c)
    (hy : w.cell? ⟨nb, 0, none⟩ = some (.int .i64 (hi64 (L n))) ∧ w.cell? ⟨nb, 1, none⟩ = some (.int .u64 (lo64 (L n)))) (hn : n ≤ 1000000) (hB : B ≤ w.heap.size) (H : Nat) (hH : w.heap.size = H)
    (h : ∀ g cap w', OwnW w' B (.slice (some ⟨g, 0, none⟩) (n + 1) cap) (n + 1) L → w.grownBy w' v.ownBlock → (v.ownBlock = some g ∨ g = H) → g < w'.heap.size → wpList Try.prog ops Q rest (a.put o.dst (.slice (some ⟨g, 0, none⟩) (n + 1) cap)) w') : wpList Try.prog ops Q (o :: rest) a w := by
  obtain ⟨i, hi, hz, hsz, hb⟩ := info_W'
  refine wpList_append_lies w hgd s x 50 ho B 54 i _ 2 16 Try.underlying50 hi hz hsz hb rfl (by decide) v n (wcells n L) hs hown ⟨nb, 0, none⟩ 1 c [.int .i64 (hi64 (L n)), .int .u64 (lo64 (L n))] hx rfl
    (fun j u hu => ?_) (fun u hu => ?_) (by decide) (by unfold maxLen; omega) (by omega) hB H hH (fun g cap w' h1 h2 h3 h4 => h g cap w' (by unfold OwnW; rw [wcells_succ]; exact h1) h2 h3 h4)
  · have hj : j < 2 := (List.getElem?_eq_some_iff.1 hu).1
    rcases (show j = 0 ∨ j = 1 by omega) with h | h
    · rw [h] at hu ⊢; simp at hu; rw [← hu]; exact hy.1
    · rw [h] at hu ⊢; simp at hu; rw [← hu]; exact hy.2
  · simp at hu; rcases hu with rfl | rfl <;> rfl
open Go in
/-- A number of an array that came as a value. -/
theorem run_index_vec {n : Nat} {T : TypeId} (hT : Try.prog.underlying T = some (.array n 2)) {o : Oper} {ev : Operand → Value} {w : World} {f : Nat → Int} (x y : Operand) (ho : o.op = .index T x y) (hx : ev x = .agg (arrv n f)) (k : Nat)
    (hy : ev y = .int .i64 (k : Int)) (hk : k < n) : (execOp ev o).run Try.prog w = .ok (.value (.int .i64 (f k))) w := by
  have e2 : (arrv n f)[k]? = some (.int .i64 (f k)) := arrv_get hk
  unfold execOp
  simp only [ho, hx, hy, Sem.run_bind]
  simp [Instr.index, run_underlying hT, asIntOf, hk, go_sem, part, e2]
theorem OwnW.blk {w : World} {B : Nat} {v : Value} {n : Nat} {L : Nat → Int} (h : OwnW w B v n L) {g : Nat} (e : v.ownBlock = some g) : B ≤ g := by
  rcases h.2 with ⟨rfl, _⟩ | ⟨g', cap, cur, rfl, hb, _⟩
  · cases e
  · simp [Value.ownBlock] at e; omega
structure UnR (A : Nat → Int) (k : Nat) (v : Value) (w wr : World) : Prop where
  ok : inQs A k = true
  own : OwnW wr (w.heap.size + 1) v k (sqA A)
  below : Below w.heap.size w wr
  sz : w.heap.size < wr.heap.size
set_option maxHeartbeats 2000000 in
theorem sunit_any (A : Nat → Int) (w : World) : Calls Try.prog 16 #[.agg (arrv 4 A)] w fun e w' => e = .returned (.bool (unitB A)) ∧ Below w.heap.size w w' := by
  have P0 : Blk (w.alloc (.cells (arrv 4 A) 40)) w.heap.size 40 4 A := Blk.new w _ 4 _
  have B0 := Lib.hid (show Below w.heap.size w (w.alloc (.cells (arrv 4 A) 40)) by (repeat (first | with_reducible exact Below.refl _ _ | with_reducible apply Below.drew | (with_reducible refine below_drewN ?_ _) | (with_reducible refine Below.alloc ?_ (by (try simp) <;> omega) _) | (with_reducible refine Below.setCell ?_ (by (try simp) <;> omega) _))))
  go_enter Try.func16, Try.ntmps16
  go_upto_region 2 with fail
  generalize w.alloc (.cells (arrv 4 A) 40) = W0 at *
  have hz0 := Lib.hid P0.lt
  go_wp2_with (refine wpList_load_row rfl 40 _ rfl (w.heap.size) rfl 40 _ (0, 0) _ (P0) Try.underlying40 rfl (iqt.trans (by rw [arrv_size])) ?_)
  go_loopw [3, 11] (fun v i wr => ∃ k : Nat, k ≤ 4 ∧ i = .int .i64 k ∧ Hid (UnR A k v w wr)) (fun _ i _ => 4 - (intOf i).toNat)
  case atStart => exact ⟨0, by omega, rfl, ⟨rfl, OwnW.nil _ _ _, B0.out, hz0.out⟩⟩
  case round =>
    obtain ⟨k, hk, rfl, R⟩ := hrel
    clear P0
    by_cases hlt : k < 4
    · have d1 : decide ((k : Int) < 4) = true := by simp; omega
      go_upto_region 4 with fail
      refine wp_region_lit ?_
      refine wpList_val (v := ?_) rfl ?_ ?_
      rotate_left
      · refine Eq.trans (run_index_vec Try.underlying40 (.tmp 10) (.tmp 11) (by rfl) (by rfl) k (by rfl) hlt) ?_; with_reducible rfl
      (try simp only [Act.put, List.setIfInBounds_toArray, List.set_cons_zero, List.set_cons_succ])
      refine wpList_val (v := ?_) rfl ?_ ?_
      rotate_left
      · (go_simp; (try (first | with_reducible rfl | (constructor <;> with_reducible rfl))))
      (try simp only [Act.put, List.setIfInBounds_toArray, List.set_cons_zero, List.set_cons_succ])
      refine wpList_nil ?_
      have hin := absV_in (A k)
      by_cases hq : inQ (A k) = true
      · rw [hq] at hin
        have d2 : decide (1073741840 < absV (A k)) = false := hin
        have hb := sq_bd hq
        have MU := Lib.hid (fun w => mul_any (A k) (A k) (sqA A k) w (by simp only [inQ, Bool.and_eq_true, decide_eq_true_eq] at hq; omega) (by simp only [inQ, Bool.and_eq_true, decide_eq_true_eq] at hq; omega) (by simp only [inQ, Bool.and_eq_true, decide_eq_true_eq] at hq; omega) (by simp only [inQ, Bool.and_eq_true, decide_eq_true_eq] at hq; omega) rfl (by unfold sqA; omega) (by unfold sqA; omega))
        have OK : Hid (inQs A (k + 1) = true) := Lib.hid (by simp only [inQs]; rw [R.out.ok, hq]; rfl)
        clear hin hq hb
        go_wp2_with fail
        refine (fabs_any (A k) _).mono ?_; rintro e w' ⟨rfl, rfl⟩
        go_wp2_with fail
        refine (MU.out _).mono ?_; rintro e w2 ⟨rfl, hb2⟩
        have O2 := Lib.hid ((R.out.own.below hb2).alloc (.cells #[.int .i64 (hi64 (sqA A k)), .int .u64 (lo64 (sqA A k))] 54))
        have B2 := Lib.hid ((Below.after R.out.below hb2).alloc (by have := hb2.size; have := R.out.sz; omega) (.cells #[.int .i64 (hi64 (sqA A k)), .int .u64 (lo64 (sqA A k))] 54))
        have Z2 : w.heap.size < w2.heap.size := by have := hb2.size; have := R.out.sz; omega
        clear hb2 MU
        go_wp2_with (refine wpList_appW rfl (.tmp 17) (.tmp 21) rfl (w.heap.size + 1) rfl O2.out w2.heap.size 1 rfl ⟨by simp [go_sem], by simp [go_sem]⟩ (by omega) (by simp; omega) _ rfl ?_; intro g cp w3 hO3 hg3 _ hlt3)
        have B3 := Lib.hid (below_grown B2.out hg3 (fun g e => by have := O2.out.blk e; omega) (by simp; omega))
        have S3 : Hid (UnR A (k + 1) (.slice (some ⟨g, 0, none⟩) (k + 1) cp) w w3) := Lib.hid ⟨OK.out, hO3, B3.out, by have := hg3.size; simp at this; omega⟩
        clear hO3 hg3 hlt3 O2 B2 B3 OK R
        go_roundw
        case rel => exact ⟨k + 1, by omega, by go_num, S3.out⟩
        case measure => simp [intOf]; omega
      · have hq2 : inQ (A k) = false := by simpa using hq
        rw [hq2] at hin
        have d2 : decide (1073741840 < absV (A k)) = true := hin
        have NO := Lib.hid (unitB_no (A := A) (n := k + 1) (by simp only [inQs]; rw [hq2, Bool.and_false]) (by omega))
        clear hin hq hq2
        go_wp2_with fail
        refine (fabs_any (A k) _).mono ?_; rintro e w' ⟨rfl, rfl⟩
        go_wp2_with fail
        go_ret
        exact ⟨by rw [NO.out]; rfl, R.out.below⟩
    · have hk4 : k = 4 := by omega
      subst hk4
      rw [show ((4 : Nat) : Int) = 4 from rfl]
      have hq := R.out.ok
      obtain ⟨g, cp, rfl, hc⟩ := R.out.own.four
      have q0 := sqA_bd hq 0 (by decide)
      have q1 := sqA_bd hq 1 (by decide)
      have q2 := sqA_bd hq 2 (by decide)
      have q3 := sqA_bd hq 3 (by decide)
      obtain ⟨S, hS⟩ : ∃ S, sum4 A = S := ⟨_, rfl⟩
      have hS0 : 0 ≤ S ∧ S ≤ 4611686155866342400 := by rw [← hS]; unfold sum4; omega
      have AD := Lib.hid (wadd4_any (sqA A 0) (sqA A 1) (sqA A 2) (sqA A 3) (sqA A 0 + sqA A 1) (sqA A 0 + sqA A 1 + sqA A 2) S g cp wr (by unfold sqA; omega) (by unfold sqA; omega) (by unfold sqA; omega) (by unfold sqA; omega) rfl rfl (by rw [← hS]; rfl)
        (hc 0 (by decide)).1 (hc 0 (by decide)).2 (hc 1 (by decide)).1 (hc 1 (by decide)).2 (hc 2 (by decide)).1 (hc 2 (by decide)).2 (hc 3 (by decide)).1 (hc 3 (by decide)).2)
      have RO := Lib.hid (fun w => round_any S 0 w (by decide) (by decide) (by omega) (by omega))
      have RV : Hid (r64V (rsh S (0 : Int).toNat) = S ∧ r64F (rsh S (0 : Int).toNat) = true) := by
        rw [show (0 : Int).toNat = 0 from rfl, rsh_zero]
        have : r64F S = true := by simp [r64F]; omega
        exact Lib.hid ⟨by simp [r64V, this], this⟩
      have UB : Hid (unitB A = (decide (-4294967296 ≤ S - 1152921504606846976) && decide (S - 1152921504606846976 ≤ 4294967296))) := Lib.hid (by unfold unitB; rw [hq, hS, Bool.true_and])
      have B0 := R.out.below
      have Z0 := R.out.sz
      have HB0 := Lib.hid B0
      clear hc q0 q1 q2 q3 hS hq R hlt hk B0
      go_wp2_with fail
      refine AD.out.mono ?_; rintro e w2 ⟨rfl, hb2⟩
      have B2 := Lib.hid (Below.after HB0.out hb2)
      have Z2 : w.heap.size < w2.heap.size := by have := hb2.size; omega
      clear hb2 AD
      go_wp2_with fail
      refine (RO.out _).mono ?_; rintro e w3 ⟨rfl, hb3⟩
      have B3 := Lib.hid (Below.after (B2.out.alloc (by omega) _) hb3)
      rw [RV.out.1, RV.out.2]
      clear hb3 RO RV
      by_cases h1 : -4294967296 ≤ S - 1152921504606846976
      · have e1 : decide (-4294967296 ≤ S - 1152921504606846976) = true := by simpa using h1
        have e2 : decide (1152921500311879680 ≤ S) = true := by simp; omega
        by_cases h2 : S - 1152921504606846976 ≤ 4294967296
        · have e3 : decide (S - 1152921504606846976 ≤ 4294967296) = true := by simpa using h2
          have e4 : decide (S ≤ 1152921508901814272) = true := by simp; omega
          rw [e1, e3] at UB
          go_wp2_with fail
          go_ret
          exact ⟨by rw [UB.out]; rfl, B3.out⟩
        · have e3 : decide (S - 1152921504606846976 ≤ 4294967296) = false := by simpa using h2
          have e4 : decide (S ≤ 1152921508901814272) = false := by simp; omega
          rw [e1, e3] at UB
          go_wp2_with fail
          go_ret
          exact ⟨by rw [UB.out]; rfl, B3.out⟩
      · have e1 : decide (-4294967296 ≤ S - 1152921504606846976) = false := by simpa using h1
        have e2 : decide (1152921500311879680 ≤ S) = false := by simp; omega
        rw [e1, Bool.false_and] at UB
        go_wp2_with fail
        go_ret
        exact ⟨by rw [UB.out]; rfl, B3.out⟩
end Go.Proofs.Ytcbklolfibdffaa
