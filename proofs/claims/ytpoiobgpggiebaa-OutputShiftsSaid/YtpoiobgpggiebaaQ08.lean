/- Contracts of the program's functions and plain laws, part 8: they hold for all arguments. -/
import Derived.Test.YtpoiobgpggiebaaQ07
import Derived.Test.YtpoiobgpggiebaaQ06
import Derived.Test.YtpoiobgpggiebaaQ04
import Derived.Test.YtpoiobgpggiebaaQ03
/- Contract of state.unit. -/
namespace Go.Proofs.Ytpoiobgpggiebaa
open Go.RowKit
set_option maxRecDepth 100000
theorem fabs_any (a : Int) (w : World) : Calls Try.prog 24 #[.int .i64 a] w fun e w' => e = .returned (.int .i64 (absV a)) ∧ w = w' := by
  by_cases ha : 1152921504606846976 ≤ a
  · have e : absV a = 1152921504606846976 := by unfold absV; rw [if_pos (.inl ha)]
    have d1 : decide (1152921504606846976 ≤ a) = true := by simpa using ha
    have E := Lib.hid e
    clear e
    go_enter Try.func24, Try.ntmps24
    go_wp2_with fail
    go_ret
    exact ⟨retI E.out.symm, rfl⟩
  · have d1 : decide (1152921504606846976 ≤ a) = false := by simpa using ha
    by_cases hb : a ≤ -1152921504606846976
    · have e : absV a = 1152921504606846976 := by unfold absV; rw [if_pos (.inr hb)]
      have d2 : decide (a ≤ -1152921504606846976) = true := by simpa using hb
      have E := Lib.hid e
      clear e
      go_enter Try.func24, Try.ntmps24
      go_wp2_with fail
      go_ret
      exact ⟨retI E.out.symm, rfl⟩
    · have d2 : decide (a ≤ -1152921504606846976) = false := by simpa using hb
      by_cases hz : a < 0
      · have e : absV a = -a := by unfold absV; rw [if_neg (by omega), if_pos hz]
        have d3 : decide (a < 0) = true := by simpa using hz
        have E := Lib.hid e
        clear e
        go_enter Try.func24, Try.ntmps24
        go_wp2_with fail
        go_ret
        exact ⟨retI E.out.symm, rfl⟩
      · have e : absV a = a := by unfold absV; rw [if_neg (by omega), if_neg hz]
        have d3 : decide (a < 0) = false := by simpa using hz
        have E := Lib.hid e
        clear e
        go_enter Try.func24, Try.ntmps24
        go_wp2_with fail
        go_ret
        exact ⟨retI E.out.symm, rfl⟩
/-- The cells of n numbers of 128 bits. -/
def wcells (n : Nat) (L : Nat → Int) : List Value := (List.range n).flatMap fun i => [.int .i64 (hi64 (L i)), .int .u64 (lo64 (L i))]
theorem wcells_succ (n : Nat) (L : Nat → Int) : wcells (n + 1) L = wcells n L ++ [.int .i64 (hi64 (L n)), .int .u64 (lo64 (L n))] := by
  simp [wcells, List.range_succ, List.flatMap_append]
def OwnW (w : World) (B : Nat) (v : Value) (n : Nat) (L : Nat → Int) : Prop := w.ownsRow B 88 2 v n (wcells n L)
theorem OwnW.nil (w : World) (B : Nat) (L : Nat → Int) : OwnW w B (.slice none 0 0) 0 L := World.ownsRow_nil w B 88 2
theorem OwnW.below {w w' : World} {B : Nat} {v : Value} {n : Nat} {L : Nat → Int} (h : OwnW w B v n L) (b : Below w.heap.size w w') : OwnW w' B v n L := by
  refine ⟨h.1, ?_⟩
  rcases h.2 with hn | ⟨g, cap, cur, rfl, hb, hgg, rest⟩
  · exact .inl hn
  · refine .inr ⟨g, cap, cur, rfl, hb, ?_, rest⟩
    rw [b.block g (Array.getElem?_eq_some_iff.1 hgg).1]
    exact hgg
theorem OwnW.alloc {w : World} {B : Nat} {v : Value} {n : Nat} {L : Nat → Int} (h : OwnW w B v n L) (o : Obj) : OwnW (w.alloc o) B v n L := h.below ((Below.refl _ _).alloc (Nat.le_refl _) o)
/-- Four of them, as cells. -/
theorem OwnW.four {w : World} {B : Nat} {v : Value} {L : Nat → Int} (h : OwnW w B v 4 L) :
    ∃ g cp, v = .slice (some ⟨g, 0, none⟩) 4 cp ∧ ∀ i, i < 4 → w.cell? ⟨g, 2 * i, none⟩ = some (.int .i64 (hi64 (L i))) ∧ w.cell? ⟨g, 2 * i + 1, none⟩ = some (.int .u64 (lo64 (L i))) := by
  rcases h.2 with ⟨_, h0⟩ | ⟨g, cap, cur, rfl, hb, hgg, h1, h2, h3, h4⟩
  · omega
  · refine ⟨g, cap, rfl, fun i hi => ?_⟩
    have hc : ∀ j v, (wcells 4 L)[j]? = some v → w.cell? ⟨g, j, none⟩ = some v := fun j v hj => by
      rw [cell_of_row w g j cur 88 (0, 0) hgg]
      rw [← h4, List.getElem?_take] at hj
      split at hj
      · simpa using hj
      · cases hj
    obtain rfl | rfl | rfl | rfl : i = 0 ∨ i = 1 ∨ i = 2 ∨ i = 3 := by omega
    all_goals exact ⟨hc _ _ rfl, hc _ _ rfl⟩
theorem info_W' : ∃ i, Try.prog.info? 88 = some i ∧ i.zero = some (.agg #[.int .i64 0, .int .u64 0]) ∧ i.size = 2 ∧ i.bytes = 16 := by
  have h : (Try.prog.info? 88).map (fun i => (i.zero, i.size, i.bytes)) = some (some (.agg #[.int .i64 0, .int .u64 0]), 2, 16) := by kernel_rfl
  cases e : Try.prog.info? 88 with
  | none => rw [e] at h; cases h
  | some i => rw [e] at h; simp at h; exact ⟨i, rfl, h.1, h.2.1, h.2.2⟩
theorem wpList_appW {w : World} {ops : Array Oper} {rest : List Oper} {o : Oper} {a : Act} {Q : Exit → Act → World → Prop} (hgd : o.guard = none) (s x : Operand)
    (ho : o.op = .call { callee := .builtin .append, args := #[s, x], argTypes := #[108, 108] })
    (B : Nat) {v : Value} {n : Nat} {L : Nat → Int} (hs : a.eval s = v) (hown : OwnW w B v n L) (nb c : Nat) (hx : a.eval x = .slice (some ⟨nb, 0, none⟩) 1 c)
    (hy : w.cell? ⟨nb, 0, none⟩ = some (.int .i64 (hi64 (L n))) ∧ w.cell? ⟨nb, 1, none⟩ = some (.int .u64 (lo64 (L n)))) (hn : n ≤ 1000000) (hB : B ≤ w.heap.size) (H : Nat) (hH : w.heap.size = H)
    (h : ∀ g cap w', OwnW w' B (.slice (some ⟨g, 0, none⟩) (n + 1) cap) (n + 1) L → w.grownBy w' v.ownBlock → (v.ownBlock = some g ∨ g = H) → g < w'.heap.size → wpList Try.prog ops Q rest (a.put o.dst (.slice (some ⟨g, 0, none⟩) (n + 1) cap)) w') : wpList Try.prog ops Q (o :: rest) a w := by
  obtain ⟨i, hi, hz, hsz, hb⟩ := info_W'
  refine wpList_append_lies w hgd s x 108 ho B 88 i _ 2 16 Try.underlying108 hi hz hsz hb rfl (by decide) v n (wcells n L) hs hown ⟨nb, 0, none⟩ 1 c [.int .i64 (hi64 (L n)), .int .u64 (lo64 (L n))] hx rfl
    (fun j u hu => ?_) (fun u hu => ?_) (by decide) (by unfold maxLen; omega) (by omega) hB H hH (fun g cap w' h1 h2 h3 h4 => h g cap w' (by unfold OwnW; rw [wcells_succ]; exact h1) h2 h3 h4)
  · have hj : j < 2 := (List.getElem?_eq_some_iff.1 hu).1
    rcases (show j = 0 ∨ j = 1 by omega) with h | h
    · rw [h] at hu ⊢; simp at hu; rw [← hu]; exact hy.1
    · rw [h] at hu ⊢; simp at hu; rw [← hu]; exact hy.2
  · simp at hu; rcases hu with rfl | rfl <;> rfl
open Go in
/-- A number of an array that came as a value. -/
theorem run_index_vec {n : Nat} {T : TypeId} (hT : Try.prog.underlying T = some (.array n 2)) {o : Oper} {ev : Operand → Value} {w : World} {f : Nat → Int} (x y : Operand) (ho : o.op = .index T x y) (hx : ev x = .agg (arrv n f)) (k : Nat)
    (hy : ev y = .int .i64 (k : Int)) (hk : k < n) : (execOp ev o).run Try.prog w = .ok (.value (.int .i64 (f k))) w := by
  have e2 : (arrv n f)[k]? = some (.int .i64 (f k)) := arrv_get hk
  unfold execOp
  simp only [ho, hx, hy, Sem.run_bind]
  simp [Instr.index, run_underlying hT, asIntOf, hk, go_sem, part, e2]
theorem OwnW.blk {w : World} {B : Nat} {v : Value} {n : Nat} {L : Nat → Int} (h : OwnW w B v n L) {g : Nat} (e : v.ownBlock = some g) : B ≤ g := by
  rcases h.2 with ⟨rfl, _⟩ | ⟨g', cap, cur, rfl, hb, _⟩
  · cases e
  · simp [Value.ownBlock] at e; omega
structure UnR (A : Nat → Int) (k : Nat) (v : Value) (w wr : World) : Prop where
  ok : inQs A k = true
  own : OwnW wr (w.heap.size + 1) v k (sqA A)
  below : Below w.heap.size w wr
  sz : w.heap.size < wr.heap.size
set_option maxHeartbeats 2000000 in
theorem sunit_any (A : Nat → Int) (w : World) : Calls Try.prog 40 #[.agg (arrv 4 A)] w fun e w' => e = .returned (.bool (unitB A)) ∧ Below w.heap.size w w' := by
  have P0 : Blk (w.alloc (.cells (arrv 4 A) 42)) w.heap.size 42 4 A := Blk.new w _ 4 _
  have B0 := Lib.hid (show Below w.heap.size w (w.alloc (.cells (arrv 4 A) 42)) by (repeat (first | with_reducible exact Below.refl _ _ | with_reducible apply Below.drew | (with_reducible refine below_drewN ?_ _) | (with_reducible refine Below.alloc ?_ (by (try simp) <;> omega) _) | (with_reducible refine Below.setCell ?_ (by (try simp) <;> omega) _))))
  go_enter Try.func40, Try.ntmps40
  go_upto_region 2 with fail
  generalize w.alloc (.cells (arrv 4 A) 42) = W0 at *
  have hz0 := Lib.hid P0.lt
  go_wp2_with (refine wpList_load_row rfl 42 _ rfl (w.heap.size) rfl 42 _ (0, 0) _ (P0) Try.underlying42 rfl (iqt.trans (by rw [arrv_size])) ?_)
  go_loopw [3, 11] (fun v i wr => ∃ k : Nat, k ≤ 4 ∧ i = .int .i64 k ∧ Hid (UnR A k v w wr)) (fun _ i _ => 4 - (intOf i).toNat)
  case atStart => exact ⟨0, by omega, rfl, ⟨rfl, OwnW.nil _ _ _, B0.out, hz0.out⟩⟩
  case round =>
    obtain ⟨k, hk, rfl, R⟩ := hrel
    clear P0
    by_cases hlt : k < 4
    · have d1 : decide ((k : Int) < 4) = true := by simp; omega
      go_upto_region 4 with fail
      refine wp_region_lit ?_
      refine wpList_val (v := ?_) rfl ?_ ?_
      rotate_left
      · refine Eq.trans (run_index_vec Try.underlying42 (.tmp 10) (.tmp 11) (by rfl) (by rfl) k (by rfl) hlt) ?_; with_reducible rfl
      (try simp only [Act.put, nA, nB, nC])
      refine wpList_val (v := ?_) rfl ?_ ?_
      rotate_left
      · (go_simp; (try (first | with_reducible rfl | (constructor <;> with_reducible rfl))))
      (try simp only [Act.put, nA, nB, nC])
      refine wpList_nil ?_
      have hin := absV_in (A k)
      by_cases hq : inQ (A k) = true
      · rw [hq] at hin
        have d2 : decide (1073741840 < absV (A k)) = false := hin
        have hb := sq_bd hq
        have MU := Lib.hid (fun w => mul_any (A k) (A k) (sqA A k) w (by simp only [inQ, Bool.and_eq_true, decide_eq_true_eq] at hq; omega) (by simp only [inQ, Bool.and_eq_true, decide_eq_true_eq] at hq; omega) (by simp only [inQ, Bool.and_eq_true, decide_eq_true_eq] at hq; omega) (by simp only [inQ, Bool.and_eq_true, decide_eq_true_eq] at hq; omega) rfl (by unfold sqA; omega) (by unfold sqA; omega))
        have OK : Hid (inQs A (k + 1) = true) := Lib.hid (by simp only [inQs]; rw [R.out.ok, hq]; rfl)
        clear hin hq hb
        go_wp2_with fail
        refine (fabs_any (A k) _).mono ?_; rintro e w' ⟨rfl, rfl⟩
        go_wp2_with fail
        refine (MU.out _).mono ?_; rintro e w2 ⟨rfl, hb2⟩
        have O2 := Lib.hid ((R.out.own.below hb2).alloc (.cells #[.int .i64 (hi64 (sqA A k)), .int .u64 (lo64 (sqA A k))] 88))
        have B2 := Lib.hid ((Below.after R.out.below hb2).alloc (by have := hb2.size; have := R.out.sz; omega) (.cells #[.int .i64 (hi64 (sqA A k)), .int .u64 (lo64 (sqA A k))] 88))
        have Z2 : w.heap.size < w2.heap.size := by have := hb2.size; have := R.out.sz; omega
        clear hb2 MU
        go_wp2_with (refine wpList_appW rfl (.tmp 17) (.tmp 21) rfl (w.heap.size + 1) rfl O2.out w2.heap.size 1 rfl ⟨by simp [go_sem], by simp [go_sem]⟩ (by omega) (by simp; omega) _ rfl ?_; intro g cp w3 hO3 hg3 _ hlt3)
        have B3 := Lib.hid (below_grown B2.out hg3 (fun g e => by have := O2.out.blk e; omega) (by simp; omega))
        have S3 : Hid (UnR A (k + 1) (.slice (some ⟨g, 0, none⟩) (k + 1) cp) w w3) := Lib.hid ⟨OK.out, hO3, B3.out, by have := hg3.size; simp at this; omega⟩
        clear hO3 hg3 hlt3 O2 B2 B3 OK R
        go_roundw
        case rel => exact ⟨k + 1, by omega, by go_num, S3.out⟩
        case measure => simp [intOf]; omega
      · have hq2 : inQ (A k) = false := by simpa using hq
        rw [hq2] at hin
        have d2 : decide (1073741840 < absV (A k)) = true := hin
        have NO := Lib.hid (unitB_no (A := A) (n := k + 1) (by simp only [inQs]; rw [hq2, Bool.and_false]) (by omega))
        clear hin hq hq2
        go_wp2_with fail
        refine (fabs_any (A k) _).mono ?_; rintro e w' ⟨rfl, rfl⟩
        go_wp2_with fail
        go_ret
        exact ⟨by rw [NO.out]; rfl, R.out.below⟩
    · have hk4 : k = 4 := by omega
      subst hk4
      rw [show ((4 : Nat) : Int) = 4 from rfl]
      have hq := R.out.ok
      obtain ⟨g, cp, rfl, hc⟩ := R.out.own.four
      have q0 := sqA_bd hq 0 (by decide)
      have q1 := sqA_bd hq 1 (by decide)
      have q2 := sqA_bd hq 2 (by decide)
      have q3 := sqA_bd hq 3 (by decide)
      obtain ⟨S, hS⟩ : ∃ S, sum4 A = S := ⟨_, rfl⟩
      have hS0 : 0 ≤ S ∧ S ≤ 4611686155866342400 := by rw [← hS]; unfold sum4; omega
      have AD := Lib.hid (wadd4_any (sqA A 0) (sqA A 1) (sqA A 2) (sqA A 3) (sqA A 0 + sqA A 1) (sqA A 0 + sqA A 1 + sqA A 2) S g cp wr (by unfold sqA; omega) (by unfold sqA; omega) (by unfold sqA; omega) (by unfold sqA; omega) rfl rfl (by rw [← hS]; rfl)
        (hc 0 (by decide)).1 (hc 0 (by decide)).2 (hc 1 (by decide)).1 (hc 1 (by decide)).2 (hc 2 (by decide)).1 (hc 2 (by decide)).2 (hc 3 (by decide)).1 (hc 3 (by decide)).2)
      have RO := Lib.hid (fun w => round_any S 0 w (by decide) (by decide) (by omega) (by omega))
      have RV : Hid (r64V (rsh S (0 : Int).toNat) = S ∧ r64F (rsh S (0 : Int).toNat) = true) := by
        rw [show (0 : Int).toNat = 0 from rfl, rsh_zero]
        have : r64F S = true := by simp [r64F]; omega
        exact Lib.hid ⟨by simp [r64V, this], this⟩
      have UB : Hid (unitB A = (decide (-4294967296 ≤ S - 1152921504606846976) && decide (S - 1152921504606846976 ≤ 4294967296))) := Lib.hid (by unfold unitB; rw [hq, hS, Bool.true_and])
      have B0 := R.out.below
      have Z0 := R.out.sz
      have HB0 := Lib.hid B0
      clear hc q0 q1 q2 q3 hS hq R hlt hk B0
      go_wp2_with fail
      refine AD.out.mono ?_; rintro e w2 ⟨rfl, hb2⟩
      have B2 := Lib.hid (Below.after HB0.out hb2)
      have Z2 : w.heap.size < w2.heap.size := by have := hb2.size; omega
      clear hb2 AD
      go_wp2_with fail
      refine (RO.out _).mono ?_; rintro e w3 ⟨rfl, hb3⟩
      have B3 := Lib.hid (Below.after (B2.out.alloc (by omega) _) hb3)
      rw [RV.out.1, RV.out.2]
      clear hb3 RO RV
      by_cases h1 : -4294967296 ≤ S - 1152921504606846976
      · have e1 : decide (-4294967296 ≤ S - 1152921504606846976) = true := by simpa using h1
        have e2 : decide (1152921500311879680 ≤ S) = true := by simp; omega
        by_cases h2 : S - 1152921504606846976 ≤ 4294967296
        · have e3 : decide (S - 1152921504606846976 ≤ 4294967296) = true := by simpa using h2
          have e4 : decide (S ≤ 1152921508901814272) = true := by simp; omega
          rw [e1, e3] at UB
          go_wp2_with fail
          go_ret
          exact ⟨by rw [UB.out]; rfl, B3.out⟩
        · have e3 : decide (S - 1152921504606846976 ≤ 4294967296) = false := by simpa using h2
          have e4 : decide (S ≤ 1152921508901814272) = false := by simp; omega
          rw [e1, e3] at UB
          go_wp2_with fail
          go_ret
          exact ⟨by rw [UB.out]; rfl, B3.out⟩
      · have e1 : decide (-4294967296 ≤ S - 1152921504606846976) = false := by simpa using h1
        have e2 : decide (1152921500311879680 ≤ S) = false := by simp; omega
        rw [e1, Bool.false_and] at UB
        go_wp2_with fail
        go_ret
        exact ⟨by rw [UB.out]; rfl, B3.out⟩
end Go.Proofs.Ytpoiobgpggiebaa
/- Contracts of package state (4): Good, Keep. -/
namespace Go.Proofs.Ytpoiobgpggiebaa
open Go.RowKit
set_option maxRecDepth 100000
def inBox (S : Nat → Int) (i : Nat) : Bool := decide (-(boxF i) ≤ S i) && decide (S i ≤ boxF i)
def boxQ (S : Nat → Int) : Nat → Bool | 0 => true | n + 1 => boxQ S n && inBox S n
def goodB (S : Nat → Int) : Bool := boxQ S 24 && unitB S
theorem boxQ_iff {S : Nat → Int} : ∀ {n : Nat}, boxQ S n = true ↔ ∀ i, i < n → -(boxF i) ≤ S i ∧ S i ≤ boxF i
  | 0 => by simp [boxQ]
  | n + 1 => by
    simp only [boxQ, Bool.and_eq_true, boxQ_iff, inBox, decide_eq_true_eq]
    constructor
    · rintro ⟨h, h1⟩ i hi
      by_cases e : i = n
      · subst e; exact h1
      · exact h i (by omega)
    · intro h
      exact ⟨fun i hi => h i (by omega), h n (by omega)⟩
end Go.Proofs.Ytpoiobgpggiebaa
/- Contract of state.Keep. -/
namespace Go.Proofs.Ytpoiobgpggiebaa
open Go.RowKit
set_option maxRecDepth 100000
def keepI (S : Nat → Int) : Nat → Int := if unitB S = true then S else turnd S (uniV S)
def keepF (S : Nat → Int) : Nat → Int := clmF (keepI S)
def keepH (S : Nat → Int) : Bool := (if unitB S = true then false else uniH S) || clmH (keepI S)
structure KpR (c : Addr) (h : Bool) (g : Nat → Int) (w wr : World) : Prop where
  upd : Upd c h w wr
  blk : Blk wr w.heap.size 32 24 g
  res : Blk wr (w.heap.size + 1) 32 24 (fun _ => 0)
theorem KpR.upd' {c : Addr} {h h' : Bool} {g : Nat → Int} {w wr w' : World} (s : KpR c h g w wr) (hc : c.block < w.heap.size) (u : Upd c h' wr w') : KpR c h' g w w' :=
  ⟨s.upd.trans u, s.blk.upd u (by omega), s.res.upd u (by omega)⟩
theorem KpR.down {c : Addr} {h : Bool} {g : Nat → Int} {w wr w' : World} (s : KpR c h g w wr) (u : Below wr.heap.size wr w') : KpR c h g w w' :=
  ⟨s.upd.then u, s.blk.below u, s.res.below u⟩
theorem KpR.row {c : Addr} {h : Bool} {g : Nat → Int} {w wr : World} (s : KpR c h g w wr) (f : Nat → Int) : KpR c h f w (wr.setRow w.heap.size (arrv 24 f)) :=
  ⟨s.upd.then' (below_row (Below.refl _ _) (Nat.le_refl _) _), s.blk.setRow f, s.res.setRow_other _ (by omega)⟩
theorem KpR.drew {c : Addr} {h : Bool} {g : Nat → Int} {w wr : World} (s : KpR c h g w wr) : KpR c h g w wr.drew := ⟨s.upd.drew, s.blk, s.res⟩
set_option maxHeartbeats 2000000 in
theorem keep_any (c : Addr) (h : Bool) (S : Nat → Int) (w : World) (hc : w.cell? c = some (.bool h)) (hf : w.frozen? c = false) :
    Calls Try.prog 22 #[.pointer (some c), .agg (arrv 24 S)] w fun e w' => e = .returned (.agg (arrv 24 (keepF S))) ∧ Upd c (h || keepH S) w w' := by
  have hcb := World.block_lt_of_cell? w c hc
  have S0 : Hid (KpR c h S w ((w.alloc (.cells (arrv 24 S) 32)).alloc (.cells #[.int .i64 0, .int .i64 0, .int .i64 0, .int .i64 0, .int .i64 0, .int .i64 0, .int .i64 0, .int .i64 0, .int .i64 0, .int .i64 0, .int .i64 0, .int .i64 0, .int .i64 0, .int .i64 0, .int .i64 0, .int .i64 0, .int .i64 0, .int .i64 0, .int .i64 0, .int .i64 0, .int .i64 0, .int .i64 0, .int .i64 0, .int .i64 0] 32))) := Lib.hid
    ⟨Upd.then (Upd.refl hc) (by (repeat (first | with_reducible exact Below.refl _ _ | with_reducible apply Below.drew | (with_reducible refine below_drewN ?_ _) | (with_reducible refine Below.alloc ?_ (by (try simp) <;> omega) _) | (with_reducible refine Below.setCell ?_ (by (try simp) <;> omega) _)))), (Blk.new w _ 24 _).alloc _, by rw [zvec24]; exact Blk.new1 w _ _ 24 _⟩
  have HC := Lib.hid hc
  have HF := Lib.hid hf
  clear hc hf
  go_enter Try.func22, Try.ntmps22
  go_upto_region 1 with fail
  generalize (w.alloc (.cells (arrv 24 S) 32)).alloc (.cells #[.int .i64 0, .int .i64 0, .int .i64 0, .int .i64 0, .int .i64 0, .int .i64 0, .int .i64 0, .int .i64 0, .int .i64 0, .int .i64 0, .int .i64 0, .int .i64 0, .int .i64 0, .int .i64 0, .int .i64 0, .int .i64 0, .int .i64 0, .int .i64 0, .int .i64 0, .int .i64 0, .int .i64 0, .int .i64 0, .int .i64 0, .int .i64 0] 32) = W0 at *
  have P0 := S0.out.blk
  by_cases hu : unitB S = true
  · have E := Lib.hid (show keepF S = clmF S ∧ (h || keepH S) = (h || clmH S) by unfold keepF keepH keepI; rw [if_pos hu, if_pos hu, Bool.false_or]; exact ⟨rfl, rfl⟩)
    go_wp2_with (first | (refine wpList_load_row rfl 32 _ rfl (w.heap.size) rfl 32 _ (0, 0) _ (P0) Try.underlying32 rfl (ist.trans (by rw [arrv_size])) ?_) | (go_at_call 37; (refine (att_any S _).mono ?_); rintro e w1 ⟨rfl, hb1⟩; have S1 := Lib.hid (S0.out.down hb1); clear hb1) | (go_at_call 40; (refine (sunit_any S _).mono ?_); rintro e w2 ⟨rfl, hb2⟩; have S2 := Lib.hid (S1.out.down hb2); (rw [hu]); have P2 := S2.out.blk; have CL := Lib.hid (clamp24_any c h S w2 (S2.out.upd.cellc HC.out) ((S2.out.upd.frozen hcb).trans HF.out)); clear hb2) | (refine wpList_load_row rfl 32 _ rfl (w.heap.size) rfl 32 _ (0, 0) _ (P2) Try.underlying32 rfl (ist.trans (by rw [arrv_size])) ?_) | (go_at_call 42; (refine CL.out.mono ?_); rintro e w3 ⟨rfl, hu3⟩; have S3 := Lib.hid (S2.out.upd' hcb hu3); have R3 := S3.out.res; clear hu3) | (refine wpList_store_row rfl 32 _ _ rfl (w.heap.size + 1) _ rfl rfl 32 _ (R3) (ist.trans (by rw [arrv_size])) (by rw [arrv_size, arrv_size]) (oneCell_arrv _ _) ?_))
    refine bodyPost_ret (results_cell_row Try.results22 _ _ (w.heap.size + 1) 32 (arrv 24 (clmF S)) (0, 0) _ rfl (setRow_heap _ _ _ _ _ _ R3) Try.underlying32 rfl (ist.trans (by rw [arrv_size]))) rfl ⟨by rw [E.out.1], ?_⟩
    rw [E.out.2]
    exact S3.out.upd.then' (below_row (Below.refl _ _) (by omega) _)
  · have hu2 : unitB S = false := by simpa using hu
    obtain ⟨T, hT⟩ : ∃ T, turnd S (uniV S) = T := ⟨_, rfl⟩
    have E := Lib.hid (show keepF S = clmF T ∧ (h || keepH S) = (h || uniH S || clmH T) by unfold keepF keepH keepI; rw [if_neg hu, if_neg hu, hT, ← Bool.or_assoc]; exact ⟨rfl, rfl⟩)
    have HT := Lib.hid hT
    clear hT hu
    go_upto_region 2 with (first | (refine wpList_load_row rfl 32 _ rfl (w.heap.size) rfl 32 _ (0, 0) _ (P0) Try.underlying32 rfl (ist.trans (by rw [arrv_size])) ?_) | (go_at_call 37; (refine (att_any S _).mono ?_); rintro e w1 ⟨rfl, hb1⟩; have S1 := Lib.hid (S0.out.down hb1); clear hb1) | (go_at_call 40; (refine (sunit_any S _).mono ?_); rintro e w2 ⟨rfl, hb2⟩; have S2 := Lib.hid (S1.out.down hb2); (rw [hu2]); clear hb2))
    clear S0 S1 P0 hu2
    have P2 := S2.out.blk
    refine wp_region_M (fun w' => Blk w' w.heap.size 32 24 S) 6 (by kernel_rfl) ?_ (fun hHeld => ?_)
    · exact P2.drew
    refine wpAnyM_take 0 (v := ?_) rfl (by kernel_rfl) (fun _ _ _ h => h) (Or.inl ⟨by rfl, ?_⟩) (by assumption) ?_
    rotate_left
    · (intro wx hSw; refine Eq.trans (run_load_row 32 (.tmp 3) (by rfl) w.heap.size (by rfl) _ _ _ _ hSw Try.underlying32 rfl (ist.trans (by rw [arrv_size]))) ?_; with_reducible rfl)
    (try simp only [Act.put, nA, nB, nC])
    refine wpAnyM_take 1 (v := ?_) rfl (by kernel_rfl) (fun _ _ _ h => h) (Or.inl ⟨by rfl, ?_⟩) (by assumption) ?_
    rotate_left
    · (intro wx hSw; (try dsimp only at hSw); go_simp; (try with_reducible rfl))
    (try simp only [Act.put, nA, nB, nC])
    refine wpAnyM_take 2 (v := ?_) rfl (by kernel_rfl) (fun _ _ _ h => h) (Or.inl ⟨by rfl, ?_⟩) (by assumption) ?_
    rotate_left
    · (intro wx hSw; refine Eq.trans (run_load_row 32 (.tmp 3) (by rfl) w.heap.size (by rfl) _ _ _ _ hSw Try.underlying32 rfl (ist.trans (by rw [arrv_size]))) ?_; with_reducible rfl)
    (try simp only [Act.put, nA, nB, nC])
    refine wpAnyM_oneS 3 rfl (by kernel_rfl) (fun K hK => ?_)
    go_simp
    (refine (att_any S _).mono ?_); rintro e w3 ⟨rfl, hb3⟩; have S3 := Lib.hid (S2.out.drew.down hb3); clear hb3
    (try dsimp only)
    (try simp only [Act.put, nA, nB, nC])
    clear hHeld
    refine hK.out _ _ ?_ (fun hHeld => ?_)
    · exact S3.out.blk
    clear hK K
    (try simp only [Act.put, nA, nB, nC])
    refine wpAnyM_oneS 4 rfl (by kernel_rfl) (fun K hK => ?_)
    go_simp
    (refine (qunit_any c h S w3 (S3.out.upd.cellc HC.out) ((S3.out.upd.frozen hcb).trans HF.out)).mono ?_); rintro e w4 ⟨rfl, hu4⟩; have S4 := Lib.hid (S3.out.upd' hcb hu4); clear hu4
    (try dsimp only)
    (try simp only [Act.put, nA, nB, nC])
    clear hHeld
    refine hK.out _ _ ?_ (fun hHeld => ?_)
    · exact S4.out.blk
    clear hK K
    (try simp only [Act.put, nA, nB, nC])
    refine wpAnyM_oneS 5 rfl (by kernel_rfl) (fun K hK => ?_)
    go_simp
    (refine (turned_any S (uniV S) _).mono ?_); rintro e w5 ⟨rfl, hb5⟩; have S5 := Lib.hid (S4.out.down hb5); clear hb5; (rw [HT.out]); have P5 := S5.out.blk
    (try dsimp only)
    (try simp only [Act.put, nA, nB, nC])
    clear hHeld
    refine hK.out _ _ ?_ (fun hHeld => ?_)
    · exact S5.out.blk
    clear hK K
    (try simp only [Act.put, nA, nB, nC])
    refine wpAnyM_one 6 rfl (by kernel_rfl) (fun K hK => ?_)
    go_simp; rw [if_pos (arrv_size _ _), run_storeCells_row _ P5]; go_simp
    refine hK.out _ _ (.inl (by kernel_rfl)) (fun _ => ?_)
    clear hK K
    (try simp only [Act.put, nA, nB, nC])
    refine wpAnyM_done (by kernel_rfl) ?_ _
    have S6 := S5.out.row T
    generalize w5.setRow w.heap.size (arrv 24 T) = W6 at *
    have S6' := Lib.hid S6
    have P6 := S6.blk
    have CL := Lib.hid (clamp24_any c _ T W6 (S6.upd.cellc HC.out) ((S6.upd.frozen hcb).trans HF.out))
    clear S6 S2 S3 S4 S5 P2 P5
    go_wp2_with (first | (refine wpList_load_row rfl 32 _ rfl (w.heap.size) rfl 32 _ (0, 0) _ (P6) Try.underlying32 rfl (ist.trans (by rw [arrv_size])) ?_) | (go_at_call 42; (refine CL.out.mono ?_); rintro e w7 ⟨rfl, hu7⟩; have S7 := Lib.hid (S6'.out.upd' hcb hu7); have R7 := S7.out.res; clear hu7) | (refine wpList_store_row rfl 32 _ _ rfl (w.heap.size + 1) _ rfl rfl 32 _ (R7) (ist.trans (by rw [arrv_size])) (by rw [arrv_size, arrv_size]) (oneCell_arrv _ _) ?_))
    refine bodyPost_ret (results_cell_row Try.results22 _ _ (w.heap.size + 1) 32 (arrv 24 (clmF T)) (0, 0) _ rfl (setRow_heap _ _ _ _ _ _ R7) Try.underlying32 rfl (ist.trans (by rw [arrv_size]))) rfl ⟨by rw [E.out.1], ?_⟩
    rw [E.out.2]
    exact S7.out.upd.then' (below_row (Below.refl _ _) (by omega) _)
end Go.Proofs.Ytpoiobgpggiebaa
/- Contracts of package state (6): Part, With. -/
namespace Go.Proofs.Ytpoiobgpggiebaa
open Go.RowKit
set_option maxRecDepth 100000
/-- Numbers put in from number a on: the first n of L. -/
def withF (S : Nat → Int) (a : Int) (n : Nat) (L : Nat → Int) : Nat → Int := fun i => if a ≤ i ∧ i < a + n then L ((i : Int) - a).toNat else S i
theorem iv3 : (Try.prog.info? 43).map (·.size) = some 3 := by kernel_rfl
theorem zv3 : (#[.int .i64 0, .int .i64 0, .int .i64 0] : Array Value) = arrv 3 (fun _ => 0) := by kernel_rfl
/-- Three numbers of a state, from number a on. -/
def partF (S : Nat → Int) (a : Int) : Nat → Int := fun k => if 0 ≤ a + k ∧ a + k < 24 then S (a + k).toNat else 0
def partI (S : Nat → Int) (a : Int) (m : Nat) : Nat → Int := fun k => if k < m then partF S a k else 0
structure PtR (B : Nat) (S g : Nat → Int) (w wr : World) : Prop where
  below : Below w.heap.size w wr
  sB : Blk wr w.heap.size 32 24 S
  rB : Blk wr (w.heap.size + 1) 43 3 (fun _ => 0)
  vB : Blk wr (w.heap.size + 1 + 1) 43 3 g
set_option maxHeartbeats 2000000 in
theorem part_any (S : Nat → Int) (a : Int) (w : World) (a0 : -1000000 ≤ a) (a1 : a ≤ 1000000) :
    Calls Try.prog 38 #[.agg (arrv 24 S), .int .i64 a] w fun e w' => e = .returned (.agg (arrv 3 (partF S a))) ∧ Below w.heap.size w w' := by
  go_enter Try.func38, Try.ntmps38
  go_upto_region 2 with fail
  have R0 : Hid (PtR 0 S (partI S a 0) w (((w.alloc (.cells (arrv 24 S) 32)).alloc (.cells #[.int .i64 0, .int .i64 0, .int .i64 0] 43)).alloc (.cells #[.int .i64 0, .int .i64 0, .int .i64 0] 43))) := Lib.hid
    ⟨by (repeat (first | with_reducible exact Below.refl _ _ | with_reducible apply Below.drew | (with_reducible refine below_drewN ?_ _) | (with_reducible refine Below.alloc ?_ (by (try simp) <;> omega) _) | (with_reducible refine Below.setCell ?_ (by (try simp) <;> omega) _))), ((Blk.new w _ _ _).alloc _).alloc _, by rw [zv3]; exact (Blk.new1 w _ _ _ _).alloc _, by rw [zv3]; exact (blk_new2 w _ _ _ _ _).congr fun i hi => by simp [partI]⟩
  generalize ((w.alloc (.cells (arrv 24 S) 32)).alloc (.cells #[.int .i64 0, .int .i64 0, .int .i64 0] 43)).alloc (.cells #[.int .i64 0, .int .i64 0, .int .i64 0] 43) = W0 at *
  go_wp2_with fail
  go_loopw [8] (fun i wr => ∃ k : Nat, k ≤ 3 ∧ i = .int .i64 k ∧ Hid (PtR 0 S (partI S a k) w wr)) (fun i _ => 3 - (intOf i).toNat)
  case atStart => exact ⟨0, by omega, rfl, R0.out⟩
  case round =>
    obtain ⟨k, hk, rfl, R⟩ := hrel
    by_cases hlt : k < 3
    · have d1 : decide ((k : Int) < 3) = true := by simp; omega
      have k0 : (0 : Int) ≤ (k : Int) := Int.natCast_nonneg _
      have k1 : (k : Int) < 3 := by omega
      have v0 := R.out.vB.cell (i := k) (by omega)
      have v1 := R.out.vB.free k
      by_cases h1 : 0 ≤ a + (k : Int)
      · by_cases h2 : a + (k : Int) < 24
        · have e1 : decide (0 ≤ a + (k : Int)) = true := by simpa using h1
          have e2 : decide (a + (k : Int) < 24) = true := by simpa using h2
          have s0 := R.out.sB.cell (i := (a + (k : Int)).toNat) (by omega)
          have EP := Lib.hid (show partF S a k = S (a + (k : Int)).toNat by unfold partF; rw [if_pos ⟨h1, h2⟩])
          go_wp2_with fail
          go_roundw
          case rel =>
            refine ⟨k + 1, by omega, by go_num, R.out.below.setCell (by simp; omega) _, R.out.sB.other (by simp; omega) _, R.out.rB.other (by simp) _, (R.out.vB.set _ _).congr fun i hi => ?_⟩
            simp only [Go.Proofs.Ytpoiobgpggiebaa.upd, partI]
            by_cases h : i = k
            · subst h; rw [if_pos rfl, if_pos (by omega), EP.out]
            · rw [if_neg h]; split <;> split <;> first | rfl | omega
          case measure => simp [intOf]; omega
        · have e1 : decide (0 ≤ a + (k : Int)) = true := by simpa using h1
          have e2 : decide (a + (k : Int) < 24) = false := by simpa using h2
          have EP := Lib.hid (show partF S a k = 0 by unfold partF; rw [if_neg (by omega)])
          go_wp2_with fail
          go_roundw
          case rel =>
            refine ⟨k + 1, by omega, by go_num, R.out.below, R.out.sB, R.out.rB, R.out.vB.congr fun i hi => ?_⟩
            simp only [partI]
            by_cases h : i = k
            · subst h; rw [if_neg (by omega), if_pos (by omega), EP.out]
            · split <;> split <;> first | rfl | omega
          case measure => simp [intOf]; omega
      · have e1 : decide (0 ≤ a + (k : Int)) = false := by simpa using h1
        have EP := Lib.hid (show partF S a k = 0 by unfold partF; rw [if_neg (by omega)])
        go_wp2_with fail
        go_roundw
        case rel =>
          refine ⟨k + 1, by omega, by go_num, R.out.below, R.out.sB, R.out.rB, R.out.vB.congr fun i hi => ?_⟩
          simp only [partI]
          by_cases h : i = k
          · subst h; rw [if_neg (by omega), if_pos (by omega), EP.out]
          · split <;> split <;> first | rfl | omega
        case measure => simp [intOf]; omega
    · have hk3 : k = 3 := by omega
      subst hk3
      rw [show ((3 : Nat) : Int) = 3 from rfl]
      have V := R.out.vB
      have X := R.out.rB
      have B := Lib.hid R.out.below
      clear R hk hlt R0
      go_wp2_with (first | (refine wpList_load_row rfl 43 _ rfl (w.heap.size + 1 + 1) rfl 43 _ (0, 0) _ (V) Try.underlying43 rfl (iv3.trans (by rw [arrv_size])) ?_) | (refine wpList_store_row rfl 43 _ _ rfl (w.heap.size + 1) _ rfl rfl 43 _ (X) (iv3.trans (by rw [arrv_size])) (by rw [arrv_size, arrv_size]) (oneCell_arrv _ _) ?_))
      refine bodyPost_ret (results_cell_row Try.results38 _ _ (w.heap.size + 1) 43 (arrv 3 (partI S a 3)) (0, 0) _ rfl (setRow_heap _ _ _ _ _ _ X) Try.underlying43 rfl (iv3.trans (by rw [arrv_size]))) rfl ⟨?_, below_row B.out (by omega) _⟩
      rw [arrv_congr (g := partF S a) fun i hi => by simp only [partI]; rw [if_pos hi]]
structure WhR (S g : Nat → Int) (w wr : World) : Prop where
  below : Below w.heap.size w wr
  sB : Blk wr w.heap.size 32 24 g
  rB : Blk wr (w.heap.size + 1) 32 24 (fun _ => 0)
set_option maxHeartbeats 2000000 in
theorem swith_any (S : Nat → Int) (a : Int) (p : Option Addr) (n cp : Nat) (L : Nat → Int) (w : World) (a0 : -1000000 ≤ a) (a1 : a ≤ 1000000) (hn : n ≤ 1000) (hL : Slc w p n L) :
    Calls Try.prog 20 #[.agg (arrv 24 S), .int .i64 a, .slice p n cp] w fun e w' => e = .returned (.agg (arrv 24 (withF S a n L))) ∧ Below w.heap.size w w' := by
  have HL := Lib.hid hL
  clear hL
  go_enter Try.func20, Try.ntmps20
  go_upto_region 1 with fail
  have R0 : Hid (WhR S (withF S a 0 L) w ((w.alloc (.cells (arrv 24 S) 32)).alloc (.cells #[.int .i64 0, .int .i64 0, .int .i64 0, .int .i64 0, .int .i64 0, .int .i64 0, .int .i64 0, .int .i64 0, .int .i64 0, .int .i64 0, .int .i64 0, .int .i64 0, .int .i64 0, .int .i64 0, .int .i64 0, .int .i64 0, .int .i64 0, .int .i64 0, .int .i64 0, .int .i64 0, .int .i64 0, .int .i64 0, .int .i64 0, .int .i64 0] 32))) := Lib.hid
    ⟨by (repeat (first | with_reducible exact Below.refl _ _ | with_reducible apply Below.drew | (with_reducible refine below_drewN ?_ _) | (with_reducible refine Below.alloc ?_ (by (try simp) <;> omega) _) | (with_reducible refine Below.setCell ?_ (by (try simp) <;> omega) _))), ((Blk.new w _ _ _).alloc _).congr fun i hi => by unfold withF; rw [if_neg (by omega)], by rw [zvec24]; exact Blk.new1 w _ _ _ _⟩
  generalize (w.alloc (.cells (arrv 24 S) 32)).alloc (.cells #[.int .i64 0, .int .i64 0, .int .i64 0, .int .i64 0, .int .i64 0, .int .i64 0, .int .i64 0, .int .i64 0, .int .i64 0, .int .i64 0, .int .i64 0, .int .i64 0, .int .i64 0, .int .i64 0, .int .i64 0, .int .i64 0, .int .i64 0, .int .i64 0, .int .i64 0, .int .i64 0, .int .i64 0, .int .i64 0, .int .i64 0, .int .i64 0] 32) = W0 at *
  go_wp2_with fail
  go_loopw [12] (fun i wr => ∃ k : Nat, k ≤ n ∧ i = .int .i64 k ∧ Hid (WhR S (withF S a k L) w wr)) (fun i _ => n - (intOf i).toNat)
  case atStart => exact ⟨0, by omega, rfl, R0.out⟩
  case round =>
    obtain ⟨k, hk, rfl, R⟩ := hrel
    by_cases hlt : k < n
    · obtain ⟨pb, po, rfl, hcell⟩ := HL.out k hlt
      have k0 : (0 : Int) ≤ (k : Int) := Int.natCast_nonneg _
      have k1 : (k : Int) < 1000 := by omega
      have hl0 := (R.out.below.cell (World.block_lt_of_cell? _ _ hcell)).trans hcell
      by_cases h1 : 0 ≤ a + (k : Int)
      · by_cases h2 : a + (k : Int) < 24
        · have e1 : decide (0 ≤ a + (k : Int)) = true := by simpa using h1
          have e2 : decide (a + (k : Int) < 24) = true := by simpa using h2
          have s0 := R.out.sB.cell (i := (a + (k : Int)).toNat) (by omega)
          have s1 := R.out.sB.free (a + (k : Int)).toNat
          clear hcell
          go_wp2_with fail
          go_roundw
          case rel =>
            refine ⟨k + 1, by omega, by go_num, R.out.below.setCell (by simp) _, (R.out.sB.set _ _).congr fun i hi => ?_, R.out.rB.other (by simp) _⟩
            simp only [Go.Proofs.Ytpoiobgpggiebaa.upd, withF]
            by_cases h : i = (a + (k : Int)).toNat
            · rw [if_pos h, if_pos (by omega)]; congr 1; omega
            · rw [if_neg h]; split <;> split <;> first | rfl | omega
          case measure => simp [intOf]; omega
        · have e1 : decide (0 ≤ a + (k : Int)) = true := by simpa using h1
          have e2 : decide (a + (k : Int) < 24) = false := by simpa using h2
          clear hcell
          go_wp2_with fail
          go_roundw
          case rel =>
            refine ⟨k + 1, by omega, by go_num, R.out.below, R.out.sB.congr fun i hi => ?_, R.out.rB⟩
            simp only [withF]
            split <;> split <;> first | rfl | omega
          case measure => simp [intOf]; omega
      · have e1 : decide (0 ≤ a + (k : Int)) = false := by simpa using h1
        clear hcell
        go_wp2_with fail
        go_roundw
        case rel =>
          refine ⟨k + 1, by omega, by go_num, R.out.below, R.out.sB.congr fun i hi => ?_, R.out.rB⟩
          simp only [withF]
          split <;> split <;> first | rfl | omega
        case measure => simp [intOf]; omega
    · have hkn : k = n := by omega
      subst hkn
      have V := R.out.sB
      have X := R.out.rB
      have B := Lib.hid R.out.below
      clear R hk hlt R0
      go_wp2_with (first | (refine wpList_load_row rfl 32 _ rfl (w.heap.size) rfl 32 _ (0, 0) _ (V) Try.underlying32 rfl (ist.trans (by rw [arrv_size])) ?_) | (refine wpList_store_row rfl 32 _ _ rfl (w.heap.size + 1) _ rfl rfl 32 _ (X) (ist.trans (by rw [arrv_size])) (by rw [arrv_size, arrv_size]) (oneCell_arrv _ _) ?_))
      refine bodyPost_ret (results_cell_row Try.results20 _ _ (w.heap.size + 1) 32 (arrv 24 (withF S a k L)) (0, 0) _ rfl (setRow_heap _ _ _ _ _ _ X) Try.underlying32 rfl (ist.trans (by rw [arrv_size]))) rfl ⟨rfl, below_row B.out (by omega) _⟩
end Go.Proofs.Ytpoiobgpggiebaa
/- Plain laws of Keep. -/
namespace Go.Proofs.Ytpoiobgpggiebaa
theorem unitQ_congr {A B : Nat → Int} (h : ∀ i, i < 4 → A i = B i) (u : UnitQ A) : UnitQ B := by
  refine ⟨fun i hi => by rw [← h i hi]; exact u.1 i hi, ?_, ?_⟩
  · rw [← h 0 (by decide), ← h 1 (by decide), ← h 2 (by decide), ← h 3 (by decide)]; exact u.2.1
  · rw [← h 0 (by decide), ← h 1 (by decide), ← h 2 (by decide), ← h 3 (by decide)]; exact u.2.2
theorem clmF_lo (X : Nat → Int) {i : Nat} (h : i < 4) : clmF X i = X i := by unfold clmF; rw [if_pos h]
theorem clampV_box (x M : Int) (hM : 0 ≤ M) : -M ≤ clampV x (-M) M ∧ clampV x (-M) M ≤ M := by
  unfold clampV; rw [if_neg (by omega)]; split
  · omega
  · split <;> omega
theorem boxF_lo {i : Nat} (h : i < 4) : boxF i = 1073741840 := by unfold boxF; rw [if_pos h]
/-- What is clamped, of a Unit's quaternion, is good. -/
theorem clm_good (X : Nat → Int) (u : UnitQ X) : goodB (clmF X) = true := by
  unfold goodB
  rw [Bool.and_eq_true]
  refine ⟨boxQ_iff.2 fun i hi => ?_, (unitB_iff _).2 (unitQ_congr (fun i hi => (clmF_lo X hi).symm) u)⟩
  by_cases h : i < 4
  · rw [clmF_lo X h, boxF_lo h]; exact u.1 i h
  · unfold clmF; rw [if_neg h]; exact clampV_box _ _ (by have := boxF_bd i; omega)
theorem turnd_unit (S Q : Nat → Int) (u : UnitQ Q) : UnitQ (turnd S Q) := unitQ_congr (fun i hi => by unfold turnd; rw [if_pos hi]) u
theorem keep_good (S : Nat → Int) : goodB (keepF S) = true := by
  refine clm_good _ ?_
  unfold keepI
  split
  · rename_i h; exact (unitB_iff S).1 h
  · exact turnd_unit _ _ (unit_good S)
theorem good_parts {K : Nat → Int} (h : goodB K = true) : (∀ i, i < 24 → -(boxF i) ≤ K i ∧ K i ≤ boxF i) ∧ unitB K = true := by
  unfold goodB at h
  rw [Bool.and_eq_true] at h
  exact ⟨boxQ_iff.1 h.1, h.2⟩
theorem clampV_id {x M : Int} (h : -M ≤ x ∧ x ≤ M) : clampV x (-M) M = x ∧ clampH x (-M) M = false := by
  unfold clampV clampH; rw [if_neg (by omega), if_neg (by omega), if_neg (by omega)]; simp; omega
end Go.Proofs.Ytpoiobgpggiebaa
/- Stores in a region that draws its order, by their runs: the walk's goal is never looked into. -/
namespace Go.Proofs.Ytpoiobgpggiebaa
open Go.RowKit
open Go in
/-- The last operation that changes the world (a store), by its run: the walk's goal is never looked into. -/
theorem wpAnyM_doneL {P : Program} {ops : Array Oper} {Q : Exit → Act → World → Prop} {md : Region.Mode} {L : Nat} {S : World → Prop} (i : Nat) {o : Oper} {fuel : Nat} {listed : Array Bool} {a : Act} {w w' : World} (ho : ops.toList[i]? = some o) (hr : Region.ready md ops listed = [i])
    (hw : Region.wanted o (yielded ops a.tmps) = true) (hl : (listed.setIfInBounds i true).getD L false = true) (hy : (execOp a.eval o).run P w = .ok .skip w') (h : wpAnyM P md ops Q S L fuel (listed.setIfInBounds i true) (a.put o.dst undef) w') :
    wpAnyM P md ops Q S L (fuel + 1) listed a w :=
  wpAnyM_one i ho hr fun K hK => by
    rw [if_pos hw]
    exact wp_of_run hy (hK.out _ _ (.inl hl) fun _ => h)
open Go in
/-- An operation ahead of the last that changes the world (a store), by its run. -/
theorem wpAnyM_doneN {P : Program} {ops : Array Oper} {Q : Exit → Act → World → Prop} {md : Region.Mode} {L : Nat} {S : World → Prop} (i : Nat) {o : Oper} {fuel : Nat} {listed : Array Bool} {a : Act} {w w' : World} (ho : ops.toList[i]? = some o) (hr : Region.ready md ops listed = [i])
    (hw : Region.wanted o (yielded ops a.tmps) = true) (hy : (execOp a.eval o).run P w = .ok .skip w') (hS : S w') (h : S w' → wpAnyM P md ops Q S L fuel (listed.setIfInBounds i true) (a.put o.dst undef) w') :
    wpAnyM P md ops Q S L (fuel + 1) listed a w :=
  wpAnyM_oneS i ho hr fun K hK => by
    rw [if_pos hw]
    exact wp_of_run hy (hK.out _ _ hS h)
end Go.Proofs.Ytpoiobgpggiebaa
/- What changes under a predictor's calls (Chg), the predictor itself (PdR); output.Of. -/
namespace Go.Proofs.Ytpoiobgpggiebaa
open Go.RowKit
open Go
set_option maxRecDepth 100000
/-- All blocks but those of X are as they were. -/
structure Chg (X : Nat → Prop) (w w' : World) : Prop where
  os : w'.os = w.os
  tape : w'.tape = w.tape
  output : w'.output = w.output
  size : w.heap.size ≤ w'.heap.size
  block : ∀ k, k < w.heap.size → ¬ X k → w'.heap[k]? = w.heap[k]?
theorem Chg.refl (X : Nat → Prop) (w : World) : Chg X w w := ⟨rfl, rfl, rfl, Nat.le_refl _, fun _ _ _ => rfl⟩
theorem Chg.then {X Y : Nat → Prop} {a b c : World} (h : Chg X a b) (k : Chg Y b c) (s : ∀ i, i < a.heap.size → Y i → X i) : Chg X a c :=
  ⟨k.os.trans h.os, k.tape.trans h.tape, k.output.trans h.output, Nat.le_trans h.size k.size, fun i hi hx => (k.block i (Nat.lt_of_lt_of_le hi h.size) (fun y => hx (s i hi y))).trans (h.block i hi hx)⟩
theorem Chg.trans {X : Nat → Prop} {a b c : World} (h : Chg X a b) (k : Chg X b c) : Chg X a c := h.then k fun _ _ x => x
theorem Chg.mono {X Y : Nat → Prop} {a b : World} (h : Chg X a b) (s : ∀ i, i < a.heap.size → X i → Y i) : Chg Y a b := ⟨h.os, h.tape, h.output, h.size, fun i hi hx => h.block i hi (fun y => hx (s i hi y))⟩
theorem Chg.below {X : Nat → Prop} {a b : World} (h : Below a.heap.size a b) : Chg X a b := ⟨h.os, h.tape, h.output, h.size, fun i hi _ => h.block i hi⟩
theorem Chg.upd {X : Nat → Prop} {a b : World} {c : Addr} {h : Bool} (u : Upd c h a b) (hx : X c.block) : Chg X a b :=
  ⟨u.os, u.tape, u.output, u.size, fun i hi hn => u.block hi (fun e => hn (by rw [e]; exact hx))⟩
theorem Chg.grown {X : Nat → Prop} {a b : World} {r : Option Nat} (g : a.grownBy b r) (hx : ∀ k, r = some k → X k) : Chg X a b :=
  ⟨g.os, g.tape, g.output, g.size, fun i hi hn => g.block i hi (fun e => hn (hx i e.symm))⟩
theorem Chg.toBelow {X : Nat → Prop} {a b : World} (h : Chg X a b) {B : Nat} (hB : B ≤ a.heap.size) (hx : ∀ k, X k → B ≤ k) : Below B a b :=
  ⟨h.os, h.tape, h.output, h.size, fun k hk => h.block k (by omega) (fun y => by have := hx k y; omega)⟩
/-- A predictor: its block, and its outputs. -/
structure PdR (w : World) (pb : Nat) (z g : Int) (v : Value) (n : Nat) (L : Nat → Nat → Int) : Prop where
  blk : w.heap[pb]? = some (.cells #[.int .i64 z, .int .i64 g, v] 66 (0, 0))
  own : OwnO w v n L
  ne : v.ownBlock ≠ some pb
theorem PdR.kept {w w' : World} {pb : Nat} {z g : Int} {v : Value} {n : Nat} {L : Nat → Nat → Int} (p : PdR w pb z g v n L) {X : Nat → Prop} (h : Chg X w w') (h1 : ¬ X pb) (h2 : ∀ k, v.ownBlock = some k → ¬ X k) : PdR w' pb z g v n L :=
  ⟨(h.block pb (Array.getElem?_eq_some_iff.1 p.blk).1 h1).trans p.blk, p.own.kept fun k hk e => h.block k hk (h2 k e.symm), p.ne⟩
theorem PdR.lt {w : World} {pb : Nat} {z g : Int} {v : Value} {n : Nat} {L : Nat → Nat → Int} (p : PdR w pb z g v n L) : pb < w.heap.size := (Array.getElem?_eq_some_iff.1 p.blk).1
theorem PdR.c0 {w : World} {pb : Nat} {z g : Int} {v : Value} {n : Nat} {L : Nat → Nat → Int} (p : PdR w pb z g v n L) : w.cell? ⟨pb, 0, none⟩ = some (.int .i64 z) := by rw [cell_of_row w pb 0 _ _ (0, 0) p.blk]; rfl
theorem PdR.c1 {w : World} {pb : Nat} {z g : Int} {v : Value} {n : Nat} {L : Nat → Nat → Int} (p : PdR w pb z g v n L) : w.cell? ⟨pb, 1, none⟩ = some (.int .i64 g) := by rw [cell_of_row w pb 1 _ _ (0, 0) p.blk]; rfl
theorem PdR.c2 {w : World} {pb : Nat} {z g : Int} {v : Value} {n : Nat} {L : Nat → Nat → Int} (p : PdR w pb z g v n L) : w.cell? ⟨pb, 2, none⟩ = some v := by rw [cell_of_row w pb 2 _ _ (0, 0) p.blk]; rfl
theorem PdR.free {w : World} {pb : Nat} {z g : Int} {v : Value} {n : Nat} {L : Nat → Nat → Int} (p : PdR w pb z g v n L) (i : Nat) : w.frozen? ⟨pb, i, none⟩ = false := frozen_of_row w pb i _ _ p.blk
/-- An output of its parts. -/
def outF (t : Int) (A V P : Nat → Int) : Nat → Int := fun j => if j = 0 then t else if j < 5 then A (j - 1) else if j < 8 then V (j - 5) else P (j - 8)
theorem run_build_out {o : Oper} {ev : Operand → Value} {w : World} (x y z u : Operand) (ho : o.op = .build 49 #[(0, x), (1, y), (2, z), (3, u)]) {t : Int} {A V P : Nat → Int} (hx : ev x = .int .i64 t) (hy : ev y = .agg (arrv 4 A)) (hz : ev z = .agg (arrv 3 V)) (hu : ev u = .agg (arrv 3 P)) :
    (execOp ev o).run Try.prog w = .ok (.value (.agg (arrv 11 (outF t A V P)))) w := by
  unfold execOp
  simp only [ho, List.map_toArray, List.map_cons, List.map_nil, hx, hy, hz, hu]
  kernel_rfl
/-- An estimate's output. -/
def ofF (S : Nat → Int) (t : Int) : Nat → Int := outF t (keepF S) (partF (keepF S) 4) (partF (keepF S) 7)
theorem ofF_get (S : Nat → Int) (t : Int) {j : Nat} (hj : j < 11) : ofF S t j = if j = 0 then t else keepF S (j - 1) := by
  unfold ofF outF partF
  by_cases h0 : j = 0
  · rw [if_pos h0, if_pos h0]
  · rw [if_neg h0, if_neg h0]
    split
    · rfl
    · split
      · rw [if_pos (by omega)]; congr 1; omega
      · rw [if_pos (by omega)]; congr 1; omega
theorem zou : (#[.int .i64 0, .int .i64 0, .int .i64 0, .int .i64 0, .int .i64 0, .int .i64 0, .int .i64 0, .int .i64 0, .int .i64 0, .int .i64 0, .int .i64 0] : Array Value) = arrv 11 (fun _ => 0) := by kernel_rfl
set_option maxHeartbeats 8000000 in
theorem outof_any (c : Addr) (h : Bool) (S : Nat → Int) (t : Int) (w : World) (hc : w.cell? c = some (.bool h)) (hf : w.frozen? c = false) :
    Calls Try.prog 19 #[.pointer (some c), .agg (arrv 24 S), .int .i64 t] w fun e w' => e = .returned (.agg (arrv 11 (ofF S t))) ∧ Upd c (h || keepH S) w w' := by
  have L0 := Lib.hid (show LsR c h [⟨w.heap.size + 1, 49, 11, fun _ => 0⟩, ⟨w.heap.size, 32, 24, S⟩] (w.heap.size + 1 + 1) w ((w.alloc (.cells (arrv 24 S) 32)).alloc (.cells #[.int .i64 0, .int .i64 0, .int .i64 0, .int .i64 0, .int .i64 0, .int .i64 0, .int .i64 0, .int .i64 0, .int .i64 0, .int .i64 0, .int .i64 0] 49)) by
    rw [zou]; simpa using ((ls_nil hc hf).lay 32 24 S).lay 49 11 (fun _ => 0))
  clear hc hf
  have KC := Lib.hid (fun (x : World) (k : x.cell? c = some (.bool h)) (f : x.frozen? c = false) => keep_any c h S x k f)
  have HZ := Lib.hid (show ofF S t = outF t (keepF S) (partF (keepF S) 4) (partF (keepF S) 7) from rfl)
  obtain ⟨K0, hK0⟩ : ∃ x, keepF S = x := ⟨_, rfl⟩
  obtain ⟨H0, hH0⟩ : ∃ x, (h || keepH S) = x := ⟨_, rfl⟩
  rw [hK0, hH0] at KC
  rw [hK0] at HZ
  rw [hH0]
  clear hK0 hH0
  go_enter Try.func19, Try.ntmps19
  go_upto_region 1 with fail
  generalize (w.alloc (.cells (arrv 24 S) 32)).alloc (.cells #[.int .i64 0, .int .i64 0, .int .i64 0, .int .i64 0, .int .i64 0, .int .i64 0, .int .i64 0, .int .i64 0, .int .i64 0, .int .i64 0, .int .i64 0] 49) = W0 at *
  have S0 := L0.out.e1
  refine wp_region_lit ?_
  refine wpList_val (v := ?_) rfl ?_ ?_
  rotate_left
  · (go_simp; (try (first | with_reducible rfl | (constructor <;> with_reducible rfl))))
  (try simp only [Act.put, nA, nB, nC])
  refine wpList_val (v := ?_) rfl ?_ ?_
  rotate_left
  · refine Eq.trans (run_load_row 32 (.tmp 4) (by rfl) (w.heap.size) (by rfl) _ _ _ _ (S0) Try.underlying32 rfl (ist.trans (by rw [arrv_size]))) ?_; with_reducible rfl
  (try simp only [Act.put, nA, nB, nC])
  refine wpList_step (fun K hK => ?_)
  go_simp
  (refine (KC.out _ L0.out.cell L0.out.free).mono ?_); rintro e w1 ⟨rfl, hu⟩; have L1 := Lib.hid ((L0.out.upd' hu).sub (E' := [⟨w.heap.size, 32, 24, S⟩, ⟨w.heap.size + 1, 49, 11, fun _ => 0⟩]) (by simp)); clear hu L0 S0 KC; have S1 := L1.out.e0
  (try dsimp only)
  (try simp only [Act.put, nA, nB, nC])
  refine hK _ _ ?_
  clear hK K
  refine wpList_done (w' := ?_) rfl ?_ ?_
  rotate_left
  · refine Eq.trans (run_store_row 32 (.tmp 4) (.tmp 9) (by rfl) (w.heap.size) (by rfl) (by rfl) (S1) (ist.trans rfl)) ?_; with_reducible rfl
  (try simp only [Act.put, nA, nB, nC])
  refine wpList_nil ?_
  have HS := Lib.hid ((L1.out.row (by simp) K0).drew)
  generalize w1.setRow w.heap.size (arrv 24 K0) = W1 at *
  clear L1 S1
  go_upto_region 2 with fail
  obtain ⟨VV, hVV⟩ : ∃ x, partF K0 4 = x := ⟨_, rfl⟩
  obtain ⟨VP, hVP⟩ : ∃ x, partF K0 7 = x := ⟨_, rfl⟩
  have HV := Lib.hid (And.intro hVV hVP)
  rw [hVV, hVP] at HZ
  clear hVV hVP
  refine wp_region_M (fun w' => Blk w' w.heap.size 32 24 K0) 8 (by kernel_rfl) ?_ (fun hHeld => ?_)
  · exact HS.out.e0
  refine wpAnyM_take 0 (v := ?_) rfl (by kernel_rfl) (fun _ _ _ h => h) (Or.inl ⟨by rfl, ?_⟩) (by assumption) ?_
  rotate_left
  · (intro wx hSw; (try dsimp only at hSw); go_simp; (try with_reducible rfl))
  (try simp only [Act.put, nA, nB, nC])
  refine wpAnyM_take 1 (v := ?_) rfl (by kernel_rfl) (fun _ _ _ h => h) (Or.inl ⟨by rfl, ?_⟩) (by assumption) ?_
  rotate_left
  · (intro wx hSw; refine Eq.trans (run_load_row 32 (.tmp 4) (by rfl) (w.heap.size) (by rfl) _ _ _ _ (hSw) Try.underlying32 rfl (ist.trans (by rw [arrv_size]))) ?_; with_reducible rfl)
  (try simp only [Act.put, nA, nB, nC])
  refine wpAnyM_take 3 (v := ?_) rfl (by kernel_rfl) (fun _ _ _ h => h) (Or.inl ⟨by rfl, ?_⟩) (by assumption) ?_
  rotate_left
  · (intro wx hSw; refine Eq.trans (run_load_row 32 (.tmp 4) (by rfl) (w.heap.size) (by rfl) _ _ _ _ (hSw) Try.underlying32 rfl (ist.trans (by rw [arrv_size]))) ?_; with_reducible rfl)
  (try simp only [Act.put, nA, nB, nC])
  refine wpAnyM_take 5 (v := ?_) rfl (by kernel_rfl) (fun _ _ _ h => h) (Or.inl ⟨by rfl, ?_⟩) (by assumption) ?_
  rotate_left
  · (intro wx hSw; refine Eq.trans (run_load_row 32 (.tmp 4) (by rfl) (w.heap.size) (by rfl) _ _ _ _ (hSw) Try.underlying32 rfl (ist.trans (by rw [arrv_size]))) ?_; with_reducible rfl)
  (try simp only [Act.put, nA, nB, nC])
  refine wpAnyM_oneS 2 rfl (by kernel_rfl) (fun K hK => ?_)
  go_simp
  (refine (att_any K0 _).mono ?_); rintro e w3 ⟨rfl, hb⟩; have HS2 := Lib.hid (HS.out.down hb); clear HS hb; have HS := HS2; clear HS2
  (try dsimp only)
  (try simp only [Act.put, nA, nB, nC])
  clear hHeld
  refine hK.out _ _ ?_ (fun hHeld => ?_)
  · exact HS.out.e0
  clear hK K
  (try simp only [Act.put, nA, nB, nC])
  refine wpAnyM_oneS 4 rfl (by kernel_rfl) (fun K hK => ?_)
  go_simp
  (refine (part_any K0 4 _ (by decide) (by decide)).mono ?_); (rw [HV.out.1]); rintro e w4 ⟨rfl, hb⟩; have HS2 := Lib.hid (HS.out.down hb); clear HS hb; have HS := HS2; clear HS2
  (try dsimp only)
  (try simp only [Act.put, nA, nB, nC])
  clear hHeld
  refine hK.out _ _ ?_ (fun hHeld => ?_)
  · exact HS.out.e0
  clear hK K
  (try simp only [Act.put, nA, nB, nC])
  refine wpAnyM_oneS 6 rfl (by kernel_rfl) (fun K hK => ?_)
  go_simp
  (refine (part_any K0 7 _ (by decide) (by decide)).mono ?_); (rw [HV.out.2]); rintro e w5 ⟨rfl, hb⟩; have HS2 := Lib.hid (HS.out.down hb); clear HS hb; have HS := HS2; clear HS2
  (try dsimp only)
  (try simp only [Act.put, nA, nB, nC])
  clear hHeld
  refine hK.out _ _ ?_ (fun hHeld => ?_)
  · exact HS.out.e0
  clear hK K
  (try simp only [Act.put, nA, nB, nC])
  refine wpAnyM_take 7 (v := ?_) rfl (by kernel_rfl) (fun _ _ _ h => h) (Or.inl ⟨by rfl, ?_⟩) (by assumption) ?_
  rotate_left
  · (intro wx hSw; refine Eq.trans (run_build_out (.tmp 10) (.tmp 12) (.tmp 14) (.tmp 16) (by rfl) (by rfl) (by rfl) (by rfl) (by rfl)) ?_; with_reducible rfl)
  (try simp only [Act.put, nA, nB, nC])
  refine wpAnyM_doneL 8 rfl (by kernel_rfl) (by rfl) (by kernel_rfl) (run_store_row 49 (.tmp 6) (.tmp 17) rfl _ rfl rfl HS.out.e1 (iou.trans rfl)) ?_
  (try simp only [Act.put, nA, nB, nC])
  refine wpAnyM_done (by kernel_rfl) ?_ _
  (have HE := Lib.hid ((HS.out.sub (E' := [⟨w.heap.size + 1, 49, 11, fun _ => 0⟩]) (by simp)).row (by simp) (outF t K0 VV VP)); rw [← HZ.out] at HE ⊢; clear HS; go_wp2_with fail; refine bodyPost_ret (results_cell_row Try.results19 _ _ (w.heap.size + 1) 49 (arrv 11 _) (0, 0) _ rfl HE.out.e0 Try.underlying49 rfl (iou.trans (by rw [arrv_size]))) rfl ⟨rfl, HE.out.upd⟩)
end Go.Proofs.Ytpoiobgpggiebaa
