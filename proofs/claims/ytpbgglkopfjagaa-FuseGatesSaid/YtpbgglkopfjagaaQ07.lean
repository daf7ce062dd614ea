/- Contracts of the program's functions and plain laws, part 7: they hold for all arguments. -/
import Derived.Test.YtpbgglkopfjagaaQ06
import Derived.Test.YtpbgglkopfjagaaQ05
import Derived.Test.YtpbgglkopfjagaaQ04
import Derived.Deep.Cut
import Derived.Deep.CutRange
import Derived.Laws.StructEq
/- Contract of state.unit. -/
namespace Go.Proofs.Ytpbgglkopfjagaa
open Go.RowKit
set_option maxRecDepth 100000
theorem fabs_any (a : Int) (w : World) : Calls Try.prog 56 #[.int .i64 a] w fun e w' => e = .returned (.int .i64 (absV a)) ∧ w = w' := by
  by_cases ha : 1152921504606846976 ≤ a
  · have e : absV a = 1152921504606846976 := by unfold absV; rw [if_pos (.inl ha)]
    have d1 : decide (1152921504606846976 ≤ a) = true := by simpa using ha
    have E := Lib.hid e
    clear e
    go_enter Try.func56, Try.ntmps56
    go_wp2_with fail
    go_ret
    exact ⟨retI E.out.symm, rfl⟩
  · have d1 : decide (1152921504606846976 ≤ a) = false := by simpa using ha
    by_cases hb : a ≤ -1152921504606846976
    · have e : absV a = 1152921504606846976 := by unfold absV; rw [if_pos (.inr hb)]
      have d2 : decide (a ≤ -1152921504606846976) = true := by simpa using hb
      have E := Lib.hid e
      clear e
      go_enter Try.func56, Try.ntmps56
      go_wp2_with fail
      go_ret
      exact ⟨retI E.out.symm, rfl⟩
    · have d2 : decide (a ≤ -1152921504606846976) = false := by simpa using hb
      by_cases hz : a < 0
      · have e : absV a = -a := by unfold absV; rw [if_neg (by omega), if_pos hz]
        have d3 : decide (a < 0) = true := by simpa using hz
        have E := Lib.hid e
        clear e
        go_enter Try.func56, Try.ntmps56
        go_wp2_with fail
        go_ret
        exact ⟨retI E.out.symm, rfl⟩
      · have e : absV a = a := by unfold absV; rw [if_neg (by omega), if_neg hz]
        have d3 : decide (a < 0) = false := by simpa using hz
        have E := Lib.hid e
        clear e
        go_enter Try.func56, Try.ntmps56
        go_wp2_with fail
        go_ret
        exact ⟨retI E.out.symm, rfl⟩
/-- The cells of n numbers of 128 bits. -/
def wcells (n : Nat) (L : Nat → Int) : List Value := (List.range n).flatMap fun i => [.int .i64 (hi64 (L i)), .int .u64 (lo64 (L i))]
theorem wcells_succ (n : Nat) (L : Nat → Int) : wcells (n + 1) L = wcells n L ++ [.int .i64 (hi64 (L n)), .int .u64 (lo64 (L n))] := by
  simp [wcells, List.range_succ, List.flatMap_append]
def OwnW (w : World) (B : Nat) (v : Value) (n : Nat) (L : Nat → Int) : Prop := w.ownsRow B 74 2 v n (wcells n L)
theorem OwnW.nil (w : World) (B : Nat) (L : Nat → Int) : OwnW w B (.slice none 0 0) 0 L := World.ownsRow_nil w B 74 2
theorem OwnW.below {w w' : World} {B : Nat} {v : Value} {n : Nat} {L : Nat → Int} (h : OwnW w B v n L) (b : Below w.heap.size w w') : OwnW w' B v n L := by
  refine ⟨h.1, ?_⟩
  rcases h.2 with hn | ⟨g, cap, cur, rfl, hb, hgg, rest⟩
  · exact .inl hn
  · refine .inr ⟨g, cap, cur, rfl, hb, ?_, rest⟩
    rw [b.block g (Array.getElem?_eq_some_iff.1 hgg).1]
    exact hgg
theorem OwnW.alloc {w : World} {B : Nat} {v : Value} {n : Nat} {L : Nat → Int} (h : OwnW w B v n L) (o : Obj) : OwnW (w.alloc o) B v n L := h.below ((Below.refl _ _).alloc (Nat.le_refl _) o)
/-- Four of them, as cells. -/
theorem OwnW.four {w : World} {B : Nat} {v : Value} {L : Nat → Int} (h : OwnW w B v 4 L) :
    ∃ g cp, v = .slice (some ⟨g, 0, none⟩) 4 cp ∧ ∀ i, i < 4 → w.cell? ⟨g, 2 * i, none⟩ = some (.int .i64 (hi64 (L i))) ∧ w.cell? ⟨g, 2 * i + 1, none⟩ = some (.int .u64 (lo64 (L i))) := by
  rcases h.2 with ⟨_, h0⟩ | ⟨g, cap, cur, rfl, hb, hgg, h1, h2, h3, h4⟩
  · omega
  · refine ⟨g, cap, rfl, fun i hi => ?_⟩
    have hc : ∀ j v, (wcells 4 L)[j]? = some v → w.cell? ⟨g, j, none⟩ = some v := fun j v hj => by
      rw [cell_of_row w g j cur 74 (0, 0) hgg]
      rw [← h4, List.getElem?_take] at hj
      split at hj
      · simpa using hj
      · cases hj
    obtain rfl | rfl | rfl | rfl : i = 0 ∨ i = 1 ∨ i = 2 ∨ i = 3 := by omega
    all_goals exact ⟨hc _ _ rfl, hc _ _ rfl⟩
theorem info_W' : ∃ i, Try.prog.info? 74 = some i ∧ i.zero = some (.agg #[.int .i64 0, .int .u64 0]) ∧ i.size = 2 ∧ i.bytes = 16 := by
  have h : (Try.prog.info? 74).map (fun i => (i.zero, i.size, i.bytes)) = some (some (.agg #[.int .i64 0, .int .u64 0]), 2, 16) := by kernel_rfl
  cases e : Try.prog.info? 74 with
  | none => rw [e] at h; cases h
  | some i => rw [e] at h; simp at h; exact ⟨i, rfl, h.1, h.2.1, h.2.2⟩
theorem wpList_appW {w : World} {ops : Array Oper} {rest : List Oper} {o : Oper} {a : Act} {Q : Exit → Act → World → Prop} (hgd : o.guard = none) (s x : Operand)
    (ho : o.op = .call { callee := .builtin .append, args := #[s, x], argTypes := #[106, 106] })
    (B : Nat) {v : Value} {n : Nat} {L : Nat → Int} (hs : a.eval s = v) (hown : OwnW w B v n L) (nb c : Nat) (hx : a.eval x = .slice (some ⟨nb, 0, none⟩) 1 c)
    (hy : w.cell? ⟨nb, 0, none⟩ = some (.int .i64 (hi64 (L n))) ∧ w.cell? ⟨nb, 1, none⟩ = some (.int .u64 (lo64 (L n)))) (hn : n ≤ 1000000) (hB : B ≤ w.heap.size) (H : Nat) (hH : w.heap.size = H)
    (h : ∀ g cap w', OwnW w' B (.slice (some ⟨g, 0, none⟩) (n + 1) cap) (n + 1) L → w.grownBy w' v.ownBlock → (v.ownBlock = some g ∨ g = H) → g < w'.heap.size → wpList Try.prog ops Q rest (a.put o.dst (.slice (some ⟨g, 0, none⟩) (n + 1) cap)) w') : wpList Try.prog ops Q (o :: rest) a w := by
  obtain ⟨i, hi, hz, hsz, hb⟩ := info_W'
  refine wpList_append_lies w hgd s x 106 ho B 74 i _ 2 16 Try.underlying106 hi hz hsz hb rfl (by decide) v n (wcells n L) hs hown ⟨nb, 0, none⟩ 1 c [.int .i64 (hi64 (L n)), .int .u64 (lo64 (L n))] hx rfl
    (fun j u hu => ?_) (fun u hu => ?_) (by decide) (by unfold maxLen; omega) (by omega) hB H hH (fun g cap w' h1 h2 h3 h4 => h g cap w' (by unfold OwnW; rw [wcells_succ]; exact h1) h2 h3 h4)
  · have hj : j < 2 := (List.getElem?_eq_some_iff.1 hu).1
    rcases (show j = 0 ∨ j = 1 by omega) with h | h
    · rw [h] at hu ⊢; simp at hu; rw [← hu]; exact hy.1
    · rw [h] at hu ⊢; simp at hu; rw [← hu]; exact hy.2
  · simp at hu; rcases hu with rfl | rfl <;> rfl
open Go in
/-- A number of an array that came as a value. -/
theorem run_index_vec {n : Nat} {T : TypeId} (hT : Try.prog.underlying T = some (.array n 2)) {o : Oper} {ev : Operand → Value} {w : World} {f : Nat → Int} (x y : Operand) (ho : o.op = .index T x y) (hx : ev x = .agg (arrv n f)) (k : Nat)
    (hy : ev y = .int .i64 (k : Int)) (hk : k < n) : (execOp ev o).run Try.prog w = .ok (.value (.int .i64 (f k))) w := by
  have e2 : (arrv n f)[k]? = some (.int .i64 (f k)) := arrv_get hk
  unfold execOp
  simp only [ho, hx, hy, Sem.run_bind]
  simp [Instr.index, run_underlying hT, asIntOf, hk, go_sem, part, e2]
theorem OwnW.blk {w : World} {B : Nat} {v : Value} {n : Nat} {L : Nat → Int} (h : OwnW w B v n L) {g : Nat} (e : v.ownBlock = some g) : B ≤ g := by
  rcases h.2 with ⟨rfl, _⟩ | ⟨g', cap, cur, rfl, hb, _⟩
  · cases e
  · simp [Value.ownBlock] at e; omega
structure UnR (A : Nat → Int) (k : Nat) (v : Value) (w wr : World) : Prop where
  ok : inQs A k = true
  own : OwnW wr (w.heap.size + 1) v k (sqA A)
  below : Below w.heap.size w wr
  sz : w.heap.size < wr.heap.size
set_option maxHeartbeats 2000000 in
theorem sunit_any (A : Nat → Int) (w : World) : Calls Try.prog 36 #[.agg (arrv 4 A)] w fun e w' => e = .returned (.bool (unitB A)) ∧ Below w.heap.size w w' := by
  have P0 : Blk (w.alloc (.cells (arrv 4 A) 83)) w.heap.size 83 4 A := Blk.new w _ 4 _
  have B0 := Lib.hid (show Below w.heap.size w (w.alloc (.cells (arrv 4 A) 83)) by (repeat (first | with_reducible exact Below.refl _ _ | with_reducible apply Below.drew | (with_reducible refine below_drewN ?_ _) | (with_reducible refine Below.alloc ?_ (by (try simp) <;> omega) _) | (with_reducible refine Below.setCell ?_ (by (try simp) <;> omega) _))))
  go_enter Try.func36, Try.ntmps36
  go_upto_region 2 with fail
  generalize w.alloc (.cells (arrv 4 A) 83) = W0 at *
  have hz0 := Lib.hid P0.lt
  go_wp2_with (refine wpList_load_row rfl 83 _ rfl (w.heap.size) rfl 83 _ (0, 0) _ (P0) Try.underlying83 rfl (iqt.trans (by rw [arrv_size])) ?_)
  go_loopw [3, 11] (fun v i wr => ∃ k : Nat, k ≤ 4 ∧ i = .int .i64 k ∧ Hid (UnR A k v w wr)) (fun _ i _ => 4 - (intOf i).toNat)
  case atStart => exact ⟨0, by omega, rfl, ⟨rfl, OwnW.nil _ _ _, B0.out, hz0.out⟩⟩
  case round =>
    obtain ⟨k, hk, rfl, R⟩ := hrel
    clear P0
    by_cases hlt : k < 4
    · have d1 : decide ((k : Int) < 4) = true := by simp; omega
      go_upto_region 4 with fail
      refine wp_region_lit ?_
      refine wpList_val (v := ?_) rfl ?_ ?_
      rotate_left
      · refine Eq.trans (run_index_vec Try.underlying83 (.tmp 10) (.tmp 11) (by rfl) (by rfl) k (by rfl) hlt) ?_; with_reducible rfl
      (try simp only [Act.put, nA, nB, nC])
      refine wpList_val (v := ?_) rfl ?_ ?_
      rotate_left
      · (go_simp; (try (first | with_reducible rfl | (constructor <;> with_reducible rfl))))
      (try simp only [Act.put, nA, nB, nC])
      refine wpList_nil ?_
      have hin := absV_in (A k)
      by_cases hq : inQ (A k) = true
      · rw [hq] at hin
        have d2 : decide (1073741840 < absV (A k)) = false := hin
        have hb := sq_bd hq
        have MU := Lib.hid (fun w => mul_any (A k) (A k) (sqA A k) w (by simp only [inQ, Bool.and_eq_true, decide_eq_true_eq] at hq; omega) (by simp only [inQ, Bool.and_eq_true, decide_eq_true_eq] at hq; omega) (by simp only [inQ, Bool.and_eq_true, decide_eq_true_eq] at hq; omega) (by simp only [inQ, Bool.and_eq_true, decide_eq_true_eq] at hq; omega) rfl (by unfold sqA; omega) (by unfold sqA; omega))
        have OK : Hid (inQs A (k + 1) = true) := Lib.hid (by simp only [inQs]; rw [R.out.ok, hq]; rfl)
        clear hin hq hb
        go_wp2_with fail
        refine (fabs_any (A k) _).mono ?_; rintro e w' ⟨rfl, rfl⟩
        go_wp2_with fail
        refine (MU.out _).mono ?_; rintro e w2 ⟨rfl, hb2⟩
        have O2 := Lib.hid ((R.out.own.below hb2).alloc (.cells #[.int .i64 (hi64 (sqA A k)), .int .u64 (lo64 (sqA A k))] 74))
        have B2 := Lib.hid ((Below.after R.out.below hb2).alloc (by have := hb2.size; have := R.out.sz; omega) (.cells #[.int .i64 (hi64 (sqA A k)), .int .u64 (lo64 (sqA A k))] 74))
        have Z2 : w.heap.size < w2.heap.size := by have := hb2.size; have := R.out.sz; omega
        clear hb2 MU
        go_wp2_with (refine wpList_appW rfl (.tmp 17) (.tmp 21) rfl (w.heap.size + 1) rfl O2.out w2.heap.size 1 rfl ⟨by simp [go_sem], by simp [go_sem]⟩ (by omega) (by simp; omega) _ rfl ?_; intro g cp w3 hO3 hg3 _ hlt3)
        have B3 := Lib.hid (below_grown B2.out hg3 (fun g e => by have := O2.out.blk e; omega) (by simp; omega))
        have S3 : Hid (UnR A (k + 1) (.slice (some ⟨g, 0, none⟩) (k + 1) cp) w w3) := Lib.hid ⟨OK.out, hO3, B3.out, by have := hg3.size; simp at this; omega⟩
        clear hO3 hg3 hlt3 O2 B2 B3 OK R
        go_roundw
        case rel => exact ⟨k + 1, by omega, by go_num, S3.out⟩
        case measure => simp [intOf]; omega
      · have hq2 : inQ (A k) = false := by simpa using hq
        rw [hq2] at hin
        have d2 : decide (1073741840 < absV (A k)) = true := hin
        have NO := Lib.hid (unitB_no (A := A) (n := k + 1) (by simp only [inQs]; rw [hq2, Bool.and_false]) (by omega))
        clear hin hq hq2
        go_wp2_with fail
        refine (fabs_any (A k) _).mono ?_; rintro e w' ⟨rfl, rfl⟩
        go_wp2_with fail
        go_ret
        exact ⟨by rw [NO.out]; rfl, R.out.below⟩
    · have hk4 : k = 4 := by omega
      subst hk4
      rw [show ((4 : Nat) : Int) = 4 from rfl]
      have hq := R.out.ok
      obtain ⟨g, cp, rfl, hc⟩ := R.out.own.four
      have q0 := sqA_bd hq 0 (by decide)
      have q1 := sqA_bd hq 1 (by decide)
      have q2 := sqA_bd hq 2 (by decide)
      have q3 := sqA_bd hq 3 (by decide)
      obtain ⟨S, hS⟩ : ∃ S, sum4 A = S := ⟨_, rfl⟩
      have hS0 : 0 ≤ S ∧ S ≤ 4611686155866342400 := by rw [← hS]; unfold sum4; omega
      have AD := Lib.hid (wadd4_any (sqA A 0) (sqA A 1) (sqA A 2) (sqA A 3) (sqA A 0 + sqA A 1) (sqA A 0 + sqA A 1 + sqA A 2) S g cp wr (by unfold sqA; omega) (by unfold sqA; omega) (by unfold sqA; omega) (by unfold sqA; omega) rfl rfl (by rw [← hS]; rfl)
        (hc 0 (by decide)).1 (hc 0 (by decide)).2 (hc 1 (by decide)).1 (hc 1 (by decide)).2 (hc 2 (by decide)).1 (hc 2 (by decide)).2 (hc 3 (by decide)).1 (hc 3 (by decide)).2)
      have RO := Lib.hid (fun w => round_any S 0 w (by decide) (by decide) (by omega) (by omega))
      have RV : Hid (r64V (rsh S (0 : Int).toNat) = S ∧ r64F (rsh S (0 : Int).toNat) = true) := by
        rw [show (0 : Int).toNat = 0 from rfl, rsh_zero]
        have : r64F S = true := by simp [r64F]; omega
        exact Lib.hid ⟨by simp [r64V, this], this⟩
      have UB : Hid (unitB A = (decide (-4294967296 ≤ S - 1152921504606846976) && decide (S - 1152921504606846976 ≤ 4294967296))) := Lib.hid (by unfold unitB; rw [hq, hS, Bool.true_and])
      have B0 := R.out.below
      have Z0 := R.out.sz
      have HB0 := Lib.hid B0
      clear hc q0 q1 q2 q3 hS hq R hlt hk B0
      go_wp2_with fail
      refine AD.out.mono ?_; rintro e w2 ⟨rfl, hb2⟩
      have B2 := Lib.hid (Below.after HB0.out hb2)
      have Z2 : w.heap.size < w2.heap.size := by have := hb2.size; omega
      clear hb2 AD
      go_wp2_with fail
      refine (RO.out _).mono ?_; rintro e w3 ⟨rfl, hb3⟩
      have B3 := Lib.hid (Below.after (B2.out.alloc (by omega) _) hb3)
      rw [RV.out.1, RV.out.2]
      clear hb3 RO RV
      by_cases h1 : -4294967296 ≤ S - 1152921504606846976
      · have e1 : decide (-4294967296 ≤ S - 1152921504606846976) = true := by simpa using h1
        have e2 : decide (1152921500311879680 ≤ S) = true := by simp; omega
        by_cases h2 : S - 1152921504606846976 ≤ 4294967296
        · have e3 : decide (S - 1152921504606846976 ≤ 4294967296) = true := by simpa using h2
          have e4 : decide (S ≤ 1152921508901814272) = true := by simp; omega
          rw [e1, e3] at UB
          go_wp2_with fail
          go_ret
          exact ⟨by rw [UB.out]; rfl, B3.out⟩
        · have e3 : decide (S - 1152921504606846976 ≤ 4294967296) = false := by simpa using h2
          have e4 : decide (S ≤ 1152921508901814272) = false := by simp; omega
          rw [e1, e3] at UB
          go_wp2_with fail
          go_ret
          exact ⟨by rw [UB.out]; rfl, B3.out⟩
      · have e1 : decide (-4294967296 ≤ S - 1152921504606846976) = false := by simpa using h1
        have e2 : decide (1152921500311879680 ≤ S) = false := by simp; omega
        rw [e1, Bool.false_and] at UB
        go_wp2_with fail
        go_ret
        exact ⟨by rw [UB.out]; rfl, B3.out⟩
end Go.Proofs.Ytpbgglkopfjagaa
/- Contracts of package state (4): Good, Keep. -/
namespace Go.Proofs.Ytpbgglkopfjagaa
open Go.RowKit
set_option maxRecDepth 100000
end Go.Proofs.Ytpbgglkopfjagaa
/- Contract of state.Keep. -/
namespace Go.Proofs.Ytpbgglkopfjagaa
open Go.RowKit
set_option maxRecDepth 100000
def keepI (S : Nat → Int) : Nat → Int := if unitB S = true then S else turnd S (uniV S)
def keepF (S : Nat → Int) : Nat → Int := clmF (keepI S)
def keepH (S : Nat → Int) : Bool := (if unitB S = true then false else uniH S) || clmH (keepI S)
structure KpR (c : Addr) (h : Bool) (g : Nat → Int) (w wr : World) : Prop where
  upd : Upd c h w wr
  blk : Blk wr w.heap.size 23 24 g
  res : Blk wr (w.heap.size + 1) 23 24 (fun _ => 0)
theorem KpR.upd' {c : Addr} {h h' : Bool} {g : Nat → Int} {w wr w' : World} (s : KpR c h g w wr) (hc : c.block < w.heap.size) (u : Upd c h' wr w') : KpR c h' g w w' :=
  ⟨s.upd.trans u, s.blk.upd u (by omega), s.res.upd u (by omega)⟩
theorem KpR.down {c : Addr} {h : Bool} {g : Nat → Int} {w wr w' : World} (s : KpR c h g w wr) (u : Below wr.heap.size wr w') : KpR c h g w w' :=
  ⟨s.upd.then u, s.blk.below u, s.res.below u⟩
theorem KpR.row {c : Addr} {h : Bool} {g : Nat → Int} {w wr : World} (s : KpR c h g w wr) (f : Nat → Int) : KpR c h f w (wr.setRow w.heap.size (arrv 24 f)) :=
  ⟨s.upd.then' (below_row (Below.refl _ _) (Nat.le_refl _) _), s.blk.setRow f, s.res.setRow_other _ (by omega)⟩
theorem KpR.drew {c : Addr} {h : Bool} {g : Nat → Int} {w wr : World} (s : KpR c h g w wr) : KpR c h g w wr.drew := ⟨s.upd.drew, s.blk, s.res⟩
set_option maxHeartbeats 2000000 in
theorem keep_any (c : Addr) (h : Bool) (S : Nat → Int) (w : World) (hc : w.cell? c = some (.bool h)) (hf : w.frozen? c = false) :
    Calls Try.prog 18 #[.pointer (some c), .agg (arrv 24 S)] w fun e w' => e = .returned (.agg (arrv 24 (keepF S))) ∧ Upd c (h || keepH S) w w' := by
  have hcb := World.block_lt_of_cell? w c hc
  have S0 : Hid (KpR c h S w ((w.alloc (.cells (arrv 24 S) 23)).alloc (.cells #[.int .i64 0, .int .i64 0, .int .i64 0, .int .i64 0, .int .i64 0, .int .i64 0, .int .i64 0, .int .i64 0, .int .i64 0, .int .i64 0, .int .i64 0, .int .i64 0, .int .i64 0, .int .i64 0, .int .i64 0, .int .i64 0, .int .i64 0, .int .i64 0, .int .i64 0, .int .i64 0, .int .i64 0, .int .i64 0, .int .i64 0, .int .i64 0] 23))) := Lib.hid
    ⟨Upd.then (Upd.refl hc) (by (repeat (first | with_reducible exact Below.refl _ _ | with_reducible apply Below.drew | (with_reducible refine below_drewN ?_ _) | (with_reducible refine Below.alloc ?_ (by (try simp) <;> omega) _) | (with_reducible refine Below.setCell ?_ (by (try simp) <;> omega) _)))), (Blk.new w _ 24 _).alloc _, by rw [zvec24]; exact Blk.new1 w _ _ 24 _⟩
  have HC := Lib.hid hc
  have HF := Lib.hid hf
  clear hc hf
  go_enter Try.func18, Try.ntmps18
  go_upto_region 1 with fail
  generalize (w.alloc (.cells (arrv 24 S) 23)).alloc (.cells #[.int .i64 0, .int .i64 0, .int .i64 0, .int .i64 0, .int .i64 0, .int .i64 0, .int .i64 0, .int .i64 0, .int .i64 0, .int .i64 0, .int .i64 0, .int .i64 0, .int .i64 0, .int .i64 0, .int .i64 0, .int .i64 0, .int .i64 0, .int .i64 0, .int .i64 0, .int .i64 0, .int .i64 0, .int .i64 0, .int .i64 0, .int .i64 0] 23) = W0 at *
  have P0 := S0.out.blk
  by_cases hu : unitB S = true
  · have E := Lib.hid (show keepF S = clmF S ∧ (h || keepH S) = (h || clmH S) by unfold keepF keepH keepI; rw [if_pos hu, if_pos hu, Bool.false_or]; exact ⟨rfl, rfl⟩)
    go_wp2_with (first | (refine wpList_load_row rfl 23 _ rfl (w.heap.size) rfl 23 _ (0, 0) _ (P0) Try.underlying23 rfl (ist.trans (by rw [arrv_size])) ?_) | (go_at_call 37; (refine (att_any S _).mono ?_); rintro e w1 ⟨rfl, hb1⟩; have S1 := Lib.hid (S0.out.down hb1); clear hb1) | (go_at_call 36; (refine (sunit_any S _).mono ?_); rintro e w2 ⟨rfl, hb2⟩; have S2 := Lib.hid (S1.out.down hb2); (rw [hu]); have P2 := S2.out.blk; have CL := Lib.hid (clamp24_any c h S w2 (S2.out.upd.cellc HC.out) ((S2.out.upd.frozen hcb).trans HF.out)); clear hb2) | (refine wpList_load_row rfl 23 _ rfl (w.heap.size) rfl 23 _ (0, 0) _ (P2) Try.underlying23 rfl (ist.trans (by rw [arrv_size])) ?_) | (go_at_call 40; (refine CL.out.mono ?_); rintro e w3 ⟨rfl, hu3⟩; have S3 := Lib.hid (S2.out.upd' hcb hu3); have R3 := S3.out.res; clear hu3) | (refine wpList_store_row rfl 23 _ _ rfl (w.heap.size + 1) _ rfl rfl 23 _ (R3) (ist.trans (by rw [arrv_size])) (by rw [arrv_size, arrv_size]) (oneCell_arrv _ _) ?_))
    refine bodyPost_ret (results_cell_row Try.results18 _ _ (w.heap.size + 1) 23 (arrv 24 (clmF S)) (0, 0) _ rfl (setRow_heap _ _ _ _ _ _ R3) Try.underlying23 rfl (ist.trans (by rw [arrv_size]))) rfl ⟨by rw [E.out.1], ?_⟩
    rw [E.out.2]
    exact S3.out.upd.then' (below_row (Below.refl _ _) (by omega) _)
  · have hu2 : unitB S = false := by simpa using hu
    obtain ⟨T, hT⟩ : ∃ T, turnd S (uniV S) = T := ⟨_, rfl⟩
    have E := Lib.hid (show keepF S = clmF T ∧ (h || keepH S) = (h || uniH S || clmH T) by unfold keepF keepH keepI; rw [if_neg hu, if_neg hu, hT, ← Bool.or_assoc]; exact ⟨rfl, rfl⟩)
    have HT := Lib.hid hT
    clear hT hu
    go_upto_region 2 with (first | (refine wpList_load_row rfl 23 _ rfl (w.heap.size) rfl 23 _ (0, 0) _ (P0) Try.underlying23 rfl (ist.trans (by rw [arrv_size])) ?_) | (go_at_call 37; (refine (att_any S _).mono ?_); rintro e w1 ⟨rfl, hb1⟩; have S1 := Lib.hid (S0.out.down hb1); clear hb1) | (go_at_call 36; (refine (sunit_any S _).mono ?_); rintro e w2 ⟨rfl, hb2⟩; have S2 := Lib.hid (S1.out.down hb2); (rw [hu2]); clear hb2))
    clear S0 S1 P0 hu2
    have P2 := S2.out.blk
    refine wp_region_M (fun w' => Blk w' w.heap.size 23 24 S) 6 (by kernel_rfl) ?_ (fun hHeld => ?_)
    · exact P2.drew
    refine wpAnyM_take 0 (v := ?_) rfl (by kernel_rfl) (fun _ _ _ h => h) (Or.inl ⟨by rfl, ?_⟩) (by assumption) ?_
    rotate_left
    · (intro wx hSw; refine Eq.trans (run_load_row 23 (.tmp 3) (by rfl) w.heap.size (by rfl) _ _ _ _ hSw Try.underlying23 rfl (ist.trans (by rw [arrv_size]))) ?_; with_reducible rfl)
    (try simp only [Act.put, nA, nB, nC])
    refine wpAnyM_take 1 (v := ?_) rfl (by kernel_rfl) (fun _ _ _ h => h) (Or.inl ⟨by rfl, ?_⟩) (by assumption) ?_
    rotate_left
    · (intro wx hSw; (try dsimp only at hSw); go_simp; (try with_reducible rfl))
    (try simp only [Act.put, nA, nB, nC])
    refine wpAnyM_take 2 (v := ?_) rfl (by kernel_rfl) (fun _ _ _ h => h) (Or.inl ⟨by rfl, ?_⟩) (by assumption) ?_
    rotate_left
    · (intro wx hSw; refine Eq.trans (run_load_row 23 (.tmp 3) (by rfl) w.heap.size (by rfl) _ _ _ _ hSw Try.underlying23 rfl (ist.trans (by rw [arrv_size]))) ?_; with_reducible rfl)
    (try simp only [Act.put, nA, nB, nC])
    refine wpAnyM_oneS 3 rfl (by kernel_rfl) (fun K hK => ?_)
    go_simp
    (refine (att_any S _).mono ?_); rintro e w3 ⟨rfl, hb3⟩; have S3 := Lib.hid (S2.out.drew.down hb3); clear hb3
    (try dsimp only)
    (try simp only [Act.put, nA, nB, nC])
    clear hHeld
    refine hK.out _ _ ?_ (fun hHeld => ?_)
    · exact S3.out.blk
    clear hK K
    (try simp only [Act.put, nA, nB, nC])
    refine wpAnyM_oneS 4 rfl (by kernel_rfl) (fun K hK => ?_)
    go_simp
    (refine (qunit_any c h S w3 (S3.out.upd.cellc HC.out) ((S3.out.upd.frozen hcb).trans HF.out)).mono ?_); rintro e w4 ⟨rfl, hu4⟩; have S4 := Lib.hid (S3.out.upd' hcb hu4); clear hu4
    (try dsimp only)
    (try simp only [Act.put, nA, nB, nC])
    clear hHeld
    refine hK.out _ _ ?_ (fun hHeld => ?_)
    · exact S4.out.blk
    clear hK K
    (try simp only [Act.put, nA, nB, nC])
    refine wpAnyM_oneS 5 rfl (by kernel_rfl) (fun K hK => ?_)
    go_simp
    (refine (turned_any S (uniV S) _).mono ?_); rintro e w5 ⟨rfl, hb5⟩; have S5 := Lib.hid (S4.out.down hb5); clear hb5; (rw [HT.out]); have P5 := S5.out.blk
    (try dsimp only)
    (try simp only [Act.put, nA, nB, nC])
    clear hHeld
    refine hK.out _ _ ?_ (fun hHeld => ?_)
    · exact S5.out.blk
    clear hK K
    (try simp only [Act.put, nA, nB, nC])
    refine wpAnyM_one 6 rfl (by kernel_rfl) (fun K hK => ?_)
    go_simp; rw [if_pos (arrv_size _ _), run_storeCells_row _ P5]; go_simp
    refine hK.out _ _ (.inl (by kernel_rfl)) (fun _ => ?_)
    clear hK K
    (try simp only [Act.put, nA, nB, nC])
    refine wpAnyM_done (by kernel_rfl) ?_ _
    have S6 := S5.out.row T
    generalize w5.setRow w.heap.size (arrv 24 T) = W6 at *
    have S6' := Lib.hid S6
    have P6 := S6.blk
    have CL := Lib.hid (clamp24_any c _ T W6 (S6.upd.cellc HC.out) ((S6.upd.frozen hcb).trans HF.out))
    clear S6 S2 S3 S4 S5 P2 P5
    go_wp2_with (first | (refine wpList_load_row rfl 23 _ rfl (w.heap.size) rfl 23 _ (0, 0) _ (P6) Try.underlying23 rfl (ist.trans (by rw [arrv_size])) ?_) | (go_at_call 40; (refine CL.out.mono ?_); rintro e w7 ⟨rfl, hu7⟩; have S7 := Lib.hid (S6'.out.upd' hcb hu7); have R7 := S7.out.res; clear hu7) | (refine wpList_store_row rfl 23 _ _ rfl (w.heap.size + 1) _ rfl rfl 23 _ (R7) (ist.trans (by rw [arrv_size])) (by rw [arrv_size, arrv_size]) (oneCell_arrv _ _) ?_))
    refine bodyPost_ret (results_cell_row Try.results18 _ _ (w.heap.size + 1) 23 (arrv 24 (clmF T)) (0, 0) _ rfl (setRow_heap _ _ _ _ _ _ R7) Try.underlying23 rfl (ist.trans (by rw [arrv_size]))) rfl ⟨by rw [E.out.1], ?_⟩
    rw [E.out.2]
    exact S7.out.upd.then' (below_row (Below.refl _ _) (by omega) _)
end Go.Proofs.Ytpbgglkopfjagaa
/- Contracts of package state (6): Part, With. -/
namespace Go.Proofs.Ytpbgglkopfjagaa
open Go.RowKit
set_option maxRecDepth 100000
end Go.Proofs.Ytpbgglkopfjagaa
/- Contract of state.Add. -/
namespace Go.Proofs.Ytpbgglkopfjagaa
open Go.RowKit
set_option maxRecDepth 100000
def sumA (S D : Nat → Int) : Nat → Int := fun i => addV (S i) (D i)
def sumK (S D : Nat → Int) (k : Nat) : Nat → Int := fun i => if i < k then addV (S i) (D i) else S i
def add1F (S D : Nat → Int) : Nat → Int := clmF (turnd (sumA S D) (uniV (sumA S D)))
def add1H (S D : Nat → Int) : Bool := orB (fun i => addH (S i) (D i)) 24 || uniH (sumA S D) || clmH (turnd (sumA S D) (uniV (sumA S D)))
/-- The first n of D's rows of 24 added. -/
def addNF (S D : Nat → Int) : Nat → Nat → Int | 0 => S | n + 1 => add1F (addNF S D n) (fun i => D (n * 24 + i))
def addNH (S D : Nat → Int) : Nat → Bool | 0 => false | n + 1 => addNH S D n || add1H (addNF S D n) (fun i => D (n * 24 + i))
set_option maxHeartbeats 4000000 in
theorem sadd_any (c : Addr) (h : Bool) (S D : Nat → Int) (pd n cp : Nat) (w : World) (hc : w.cell? c = some (.bool h)) (hf : w.frozen? c = false) (hn : 0 < n) (hn2 : n ≤ 100)
    (hD : Blk w pd 22 (24 * n) D) :
    Calls Try.prog 23 #[.pointer (some c), .agg (arrv 24 S), .slice (some ⟨pd, 0, none⟩) n cp] w fun e w' => e = .returned (.agg (arrv 24 (addNF S D n))) ∧ Upd c (h || addNH S D n) w w' := by
  have hcb := World.block_lt_of_cell? w c hc
  have hdc := hD.flag hc
  have S0 : Hid (KpR c h S w ((w.alloc (.cells (arrv 24 S) 23)).alloc (.cells #[.int .i64 0, .int .i64 0, .int .i64 0, .int .i64 0, .int .i64 0, .int .i64 0, .int .i64 0, .int .i64 0, .int .i64 0, .int .i64 0, .int .i64 0, .int .i64 0, .int .i64 0, .int .i64 0, .int .i64 0, .int .i64 0, .int .i64 0, .int .i64 0, .int .i64 0, .int .i64 0, .int .i64 0, .int .i64 0, .int .i64 0, .int .i64 0] 23))) := Lib.hid
    ⟨Upd.then (Upd.refl hc) (by (repeat (first | with_reducible exact Below.refl _ _ | with_reducible apply Below.drew | (with_reducible refine below_drewN ?_ _) | (with_reducible refine Below.alloc ?_ (by (try simp) <;> omega) _) | (with_reducible refine Below.setCell ?_ (by (try simp) <;> omega) _)))), (Blk.new w _ 24 _).alloc _, by rw [zvec24]; exact Blk.new1 w _ _ 24 _⟩
  have HC := Lib.hid hc
  have HF := Lib.hid hf
  have HD := Lib.hid hD
  have e0 : ((n : Int) == 0) = false := by simp; omega
  have e1 : (n == 0) = false := by simp; omega
  clear hc hf hD
  go_enter Try.func23, Try.ntmps23
  go_upto_region 1 with fail
  generalize (w.alloc (.cells (arrv 24 S) 23)).alloc (.cells #[.int .i64 0, .int .i64 0, .int .i64 0, .int .i64 0, .int .i64 0, .int .i64 0, .int .i64 0, .int .i64 0, .int .i64 0, .int .i64 0, .int .i64 0, .int .i64 0, .int .i64 0, .int .i64 0, .int .i64 0, .int .i64 0, .int .i64 0, .int .i64 0, .int .i64 0, .int .i64 0, .int .i64 0, .int .i64 0, .int .i64 0, .int .i64 0] 23) = W0 at *
  go_wp2_with fail
  clear e0 e1
  go_loopw [18] (fun i wr => ∃ j : Nat, j ≤ n ∧ i = .int .i64 j ∧ Hid (KpR c (h || addNH S D j) (addNF S D j) w wr)) (fun i _ => n - (intOf i).toNat)
  case atStart => exact ⟨0, by omega, rfl, by rw [show (h || addNH S D 0) = h from by simp [addNH]]; exact S0.out⟩
  case round =>
    obtain ⟨j, hj, rfl, R⟩ := hrel
    by_cases hlt : j < n
    · have d1 : decide ((j : Int) < (n : Int)) = true := by simp; omega
      have d2 : decide (j < n) = true := by simpa using hlt
      have j0 : (0 : Int) ≤ (j : Int) := Int.natCast_nonneg _
      have j1 : (j : Int) < 100 := by omega
      have DB := HD.out.upd R.out.upd hdc
      obtain ⟨G, hG⟩ : ∃ G, addNF S D j = G := ⟨_, rfl⟩
      obtain ⟨E, hE⟩ : ∃ E : Nat → Int, (fun i => D (j * 24 + i)) = E := ⟨_, rfl⟩
      obtain ⟨H1, hH1⟩ : ∃ H1, (h || addNH S D j) = H1 := ⟨_, rfl⟩
      have HST := Lib.hid (show addNF S D (j + 1) = add1F G E ∧ (h || addNH S D (j + 1)) = (H1 || add1H G E) by rw [← hG, ← hE, ← hH1]; exact ⟨rfl, by simp [addNH, Bool.or_assoc]⟩)
      rw [hG, hH1] at R
      have HE := Lib.hid hE
      have X1 : Blk (wr.alloc (.cells #[.int .i64 0, .int .i64 0, .int .i64 0, .int .i64 0, .int .i64 0, .int .i64 0, .int .i64 0, .int .i64 0, .int .i64 0, .int .i64 0, .int .i64 0, .int .i64 0, .int .i64 0, .int .i64 0, .int .i64 0, .int .i64 0, .int .i64 0, .int .i64 0, .int .i64 0, .int .i64 0, .int .i64 0, .int .i64 0, .int .i64 0, .int .i64 0] 22)) wr.heap.size 22 24 (fun _ => 0) := by rw [zvec24]; exact Blk.new _ _ 24 _
      clear hG hE hH1 S0
      go_upto_region 6 with (first | (refine wpList_load_sub rfl 22 _ rfl pd (j * 24) 24 rfl DB (by omega) _ Try.underlying22 rfl icol ?_; rw [HE.out]) | (refine wpList_store_row rfl 22 _ _ rfl (wr.heap.size) _ rfl rfl 22 _ (X1) (icol.trans (by rw [arrv_size])) (by rw [arrv_size, arrv_size]) (oneCell_arrv _ _) ?_))
      have BX : Below wr.heap.size wr ((wr.alloc (.cells #[.int .i64 0, .int .i64 0, .int .i64 0, .int .i64 0, .int .i64 0, .int .i64 0, .int .i64 0, .int .i64 0, .int .i64 0, .int .i64 0, .int .i64 0, .int .i64 0, .int .i64 0, .int .i64 0, .int .i64 0, .int .i64 0, .int .i64 0, .int .i64 0, .int .i64 0, .int .i64 0, .int .i64 0, .int .i64 0, .int .i64 0, .int .i64 0] 22)).setRow wr.heap.size (arrv 24 E)) := below_row (by (repeat (first | with_reducible exact Below.refl _ _ | with_reducible apply Below.drew | (with_reducible refine below_drewN ?_ _) | (with_reducible refine Below.alloc ?_ (by (try simp) <;> omega) _) | (with_reducible refine Below.setCell ?_ (by (try simp) <;> omega) _)))) (Nat.le_refl _) _
      have K1 := Lib.hid (R.out.down BX)
      have X2 := Lib.hid (X1.setRow E)
      have hxb : w.heap.size + 1 < wr.heap.size := R.out.res.lt
      obtain ⟨xb, hxe⟩ : ∃ xb, wr.heap.size = xb := ⟨_, rfl⟩
      generalize (wr.alloc (.cells #[.int .i64 0, .int .i64 0, .int .i64 0, .int .i64 0, .int .i64 0, .int .i64 0, .int .i64 0, .int .i64 0, .int .i64 0, .int .i64 0, .int .i64 0, .int .i64 0, .int .i64 0, .int .i64 0, .int .i64 0, .int .i64 0, .int .i64 0, .int .i64 0, .int .i64 0, .int .i64 0, .int .i64 0, .int .i64 0, .int .i64 0, .int .i64 0] 22)).setRow wr.heap.size (arrv 24 E) = W1 at *
      rw [hxe] at X2 hxb ⊢
      clear hxe BX X1 R DB d1 d2
      go_wp2_with fail
      go_loopw [22] (fun i wr => ∃ k : Nat, k ≤ 24 ∧ i = .int .i64 k ∧ Hid (KpR c (H1 || orB (fun i => addH (G i) (E i)) k) (sumK G E k) w wr ∧ Blk wr xb 22 24 E)) (fun i _ => 24 - (intOf i).toNat)
      case atStart =>
        refine ⟨0, by omega, rfl, ?_, X2.out⟩
        rw [show (H1 || orB (fun i => addH (G i) (E i)) 0) = H1 from by simp [orB]]
        exact ⟨K1.out.upd, K1.out.blk.congr fun i hi => by simp [sumK], K1.out.res⟩
      case round =>
        obtain ⟨k, hk, rfl, R⟩ := hrel
        by_cases hlt4 : k < 24
        · have d3 : decide ((k : Int) < 24) = true := by simp; omega
          have k0 : (0 : Int) ≤ (k : Int) := Int.natCast_nonneg _
          have k1 : (k : Int) < 24 := by omega
          have b0 := R.out.1.blk.cell (i := k) (by omega)
          have hv : sumK G E k k = G k := by simp [sumK]
          rw [hv] at b0
          have x0 := R.out.2.cell (i := k) (by omega)
          obtain ⟨GV, hGV⟩ : ∃ x, G k = x := ⟨_, rfl⟩
          obtain ⟨EV, hEV⟩ : ∃ x, E k = x := ⟨_, rfl⟩
          obtain ⟨H2, hH2⟩ : ∃ x, (H1 || orB (fun i => addH (G i) (E i)) k) = x := ⟨_, rfl⟩
          rw [hGV] at b0
          rw [hEV] at x0
          have HH2 := Lib.hid (And.intro hH2 (And.intro hGV hEV))
          have R2 : Hid (KpR c H2 (sumK G E k) w wr ∧ Blk wr xb 22 24 E) := Lib.hid (by rw [← hH2]; exact R.out)
          clear hv hGV hEV hH2 R
          go_upto_region 9 with fail
          refine wp_region_M (fun w' => w'.cell? ⟨w.heap.size, k, none⟩ = some (.int .i64 GV) ∧ w'.cell? ⟨xb, k, none⟩ = some (.int .i64 EV)) 11 (by kernel_rfl) ?_ (fun hHeld => ?_)
          · exact ⟨b0, x0⟩
          refine wpAnyM_take 0 (v := ?_) rfl (by kernel_rfl) (fun _ _ _ h => h) (Or.inl ⟨by rfl, ?_⟩) (by assumption) ?_
          rotate_left
          · (intro wx hSw; (try dsimp only at hSw); go_simp; (try with_reducible rfl))
          (try simp only [Act.put, nA, nB, nC])
          refine wpAnyM_take 1 (v := ?_) rfl (by kernel_rfl) (fun _ _ _ h => h) (Or.inl ⟨by rfl, ?_⟩) (by assumption) ?_
          rotate_left
          · (intro wx hSw; (try dsimp only at hSw); go_simp; (try with_reducible rfl))
          (try simp only [Act.put, nA, nB, nC])
          refine wpAnyM_take 2 (v := ?_) rfl (by kernel_rfl) (fun _ _ _ h => h) (Or.inl ⟨by rfl, ?_⟩) (by assumption) ?_
          rotate_left
          · (intro wx hSw; (try dsimp only at hSw); go_simp; (try with_reducible rfl))
          (try simp only [Act.put, nA, nB, nC])
          refine wpAnyM_take 3 (v := ?_) rfl (by kernel_rfl) (fun _ _ _ h => h) (Or.inl ⟨by rfl, ?_⟩) (by assumption) ?_
          rotate_left
          · (intro wx hSw; (try dsimp only at hSw); go_simp; (try with_reducible rfl))
          (try simp only [Act.put, nA, nB, nC])
          refine wpAnyM_take 4 (v := ?_) rfl (by kernel_rfl) (fun _ _ _ h => h) (Or.inl ⟨by rfl, ?_⟩) (by assumption) ?_
          rotate_left
          · (intro wx hSw; (try dsimp only at hSw); go_simp; (try with_reducible rfl))
          (try simp only [Act.put, nA, nB, nC])
          refine wpAnyM_take 5 (v := ?_) rfl (by kernel_rfl) (fun _ _ _ h => h) (Or.inl ⟨by rfl, ?_⟩) (by assumption) ?_
          rotate_left
          · (intro wx hSw; (try dsimp only at hSw); go_simp; (try with_reducible rfl))
          (try simp only [Act.put, nA, nB, nC])
          refine wpAnyM_take 6 (v := ?_) rfl (by kernel_rfl) (fun _ _ _ h => h) (Or.inl ⟨by rfl, ?_⟩) (by assumption) ?_
          rotate_left
          · (intro wx hSw; (try dsimp only at hSw); go_simp; (try with_reducible rfl))
          (try simp only [Act.put, nA, nB, nC])
          refine wpAnyM_take 7 (v := ?_) rfl (by kernel_rfl) (fun _ _ _ h => h) (Or.inl ⟨by rfl, ?_⟩) (by assumption) ?_
          rotate_left
          · (intro wx hSw; (try dsimp only at hSw); go_simp; (try with_reducible rfl))
          (try simp only [Act.put, nA, nB, nC])
          refine wpAnyM_oneS 8 rfl (by kernel_rfl) (fun K hK => ?_)
          go_simp
          clear hHeld
          refine hK.out _ _ ?_ (fun hHeld => ?_)
          · exact ⟨by simp [World.cell?_alloc_some, b0], by simp [World.cell?_alloc_some, x0]⟩
          clear hK K
          (try simp only [Act.put, nA, nB, nC])
          refine wpAnyM_oneS 9 rfl (by kernel_rfl) (fun K hK => ?_)
          go_simp
          have hw3 := (Below.refl wr.heap.size wr).drew.alloc (by simp) (.cells #[.int .i64 GV, .int .i64 EV] 2); have R3 := Lib.hid (And.intro (R2.out.1.down hw3) (R2.out.2.below hw3)); (refine (fadd_any c _ (two GV EV) wr.heap.size 0 2 2 _ (R3.out.1.upd.cellc HC.out) ((R3.out.1.upd.frozen hcb).trans HF.out) (by decide) (by intro i hi; obtain rfl | rfl : i = 0 ∨ i = 1 := (by omega); simp [go_sem, two]; simp [go_sem, two])).mono ?_); (rw [(add2 GV EV true).1, (add2 GV EV _).2]); rintro e w4 ⟨rfl, hu4⟩; have S4 := Lib.hid (R3.out.1.upd' hcb hu4); have X4 := Lib.hid (R3.out.2.upd hu4 (by omega)); have f4 := S4.out.blk.free k; have kp := And.intro ((S4.out.blk.cell (i := k) (by omega)).trans (by rw [show sumK G E k k = GV from by rw [← HH2.out.2.1]; simp [sumK]])) ((X4.out.cell (i := k) (by omega)).trans (by rw [HH2.out.2.2])); clear hu4 R3 hw3
          (try dsimp only)
          (try simp only [Act.put, nA, nB, nC])
          clear hHeld
          refine hK.out _ _ ?_ (fun hHeld => ?_)
          · exact kp
          clear hK K
          (try simp only [Act.put, nA, nB, nC])
          refine wpAnyM_take 10 (v := ?_) rfl (by kernel_rfl) (fun _ _ _ h => h) (Or.inl ⟨by rfl, ?_⟩) (by assumption) ?_
          rotate_left
          · (intro wx hSw; (try dsimp only at hSw); go_simp; (try with_reducible rfl))
          (try simp only [Act.put, nA, nB, nC])
          refine wpAnyM_one 11 rfl (by kernel_rfl) (fun K hK => ?_)
          go_simp
          refine hK.out _ _ (.inl (by kernel_rfl)) (fun _ => ?_)
          clear hK K
          (try simp only [Act.put, nA, nB, nC])
          refine wpAnyM_done (by kernel_rfl) ?_ _
          clear b0 x0 R2
          go_wp2_with fail
          go_roundw
          case rel =>
            refine ⟨k + 1, by omega, by go_num, ⟨?_, ?_, S4.out.res.other (by simp) _⟩, X4.out.other (by simp; omega) _⟩
            · rw [show (H1 || orB (fun i => addH (G i) (E i)) (k + 1)) = (H2 || addH GV EV) from by rw [← HH2.out.1, ← HH2.out.2.1, ← HH2.out.2.2]; simp [orB, Bool.or_assoc]]
              exact S4.out.upd.setCell (Nat.le_refl _) _
            · refine (S4.out.blk.set _ _).congr fun i hi => ?_
              simp only [Go.Proofs.Ytpbgglkopfjagaa.upd, sumK]
              by_cases h1 : i = k
              · subst h1; rw [if_pos rfl, if_pos (by omega), HH2.out.2.1, HH2.out.2.2]
              · rw [if_neg h1]; split <;> split <;> first | rfl | omega
          case measure => simp [intOf]; omega
        · have hk24 : k = 24 := by omega
          subst hk24
          rw [show ((24 : Nat) : Int) = 24 from rfl]
          obtain ⟨T, hT⟩ : ∃ T, sumA G E = T := ⟨_, rfl⟩
          obtain ⟨Y, hY⟩ : ∃ Y, turnd T (uniV T) = Y := ⟨_, rfl⟩
          obtain ⟨H2, hH2⟩ : ∃ x, (H1 || orB (fun i => addH (G i) (E i)) 24) = x := ⟨_, rfl⟩
          have S2 : Hid (KpR c H2 T w wr) := by
            rw [← hH2, ← hT]
            exact Lib.hid ⟨R.out.1.upd, R.out.1.blk.congr fun i hi => by simp only [sumK, sumA]; rw [if_pos hi], R.out.1.res⟩
          have HE2 := Lib.hid (show add1F G E = clmF Y ∧ (H1 || add1H G E) = (H2 || uniH T || clmH Y) by unfold add1F add1H; rw [hT, hY, ← hH2]; exact ⟨rfl, by simp [Bool.or_assoc]⟩)
          have HY := Lib.hid hY
          have P2 := S2.out.blk
          clear R hk hlt4 hT hY hH2 K1 X2
          go_upto_region 11 with fail
          refine wp_region_M (fun w' => Blk w' w.heap.size 23 24 T) 8 (by kernel_rfl) ?_ (fun hHeld => ?_)
          · exact P2.drew
          refine wpAnyM_take 0 (v := ?_) rfl (by kernel_rfl) (fun _ _ _ h => h) (Or.inl ⟨by rfl, ?_⟩) (by assumption) ?_
          rotate_left
          · (intro wx hSw; (try dsimp only at hSw); go_simp; (try with_reducible rfl))
          (try simp only [Act.put, nA, nB, nC])
          refine wpAnyM_take 1 (v := ?_) rfl (by kernel_rfl) (fun _ _ _ h => h) (Or.inl ⟨by rfl, ?_⟩) (by assumption) ?_
          rotate_left
          · (intro wx hSw; refine Eq.trans (run_load_row 23 (.tmp 4) (by rfl) w.heap.size (by rfl) _ _ _ _ hSw Try.underlying23 rfl (ist.trans (by rw [arrv_size]))) ?_; with_reducible rfl)
          (try simp only [Act.put, nA, nB, nC])
          refine wpAnyM_take 2 (v := ?_) rfl (by kernel_rfl) (fun _ _ _ h => h) (Or.inl ⟨by rfl, ?_⟩) (by assumption) ?_
          rotate_left
          · (intro wx hSw; (try dsimp only at hSw); go_simp; (try with_reducible rfl))
          (try simp only [Act.put, nA, nB, nC])
          refine wpAnyM_take 3 (v := ?_) rfl (by kernel_rfl) (fun _ _ _ h => h) (Or.inl ⟨by rfl, ?_⟩) (by assumption) ?_
          rotate_left
          · (intro wx hSw; refine Eq.trans (run_load_row 23 (.tmp 4) (by rfl) w.heap.size (by rfl) _ _ _ _ hSw Try.underlying23 rfl (ist.trans (by rw [arrv_size]))) ?_; with_reducible rfl)
          (try simp only [Act.put, nA, nB, nC])
          refine wpAnyM_oneS 4 rfl (by kernel_rfl) (fun K hK => ?_)
          go_simp
          (refine (att_any T _).mono ?_); rintro e w3 ⟨rfl, hb3⟩; have S3 := Lib.hid (S2.out.drew.down hb3); clear hb3
          (try dsimp only)
          (try simp only [Act.put, nA, nB, nC])
          clear hHeld
          refine hK.out _ _ ?_ (fun hHeld => ?_)
          · exact S3.out.blk
          clear hK K
          (try simp only [Act.put, nA, nB, nC])
          refine wpAnyM_oneS 5 rfl (by kernel_rfl) (fun K hK => ?_)
          go_simp
          (refine (qunit_any c H2 T w3 (S3.out.upd.cellc HC.out) ((S3.out.upd.frozen hcb).trans HF.out)).mono ?_); rintro e w4 ⟨rfl, hu4⟩; have S4 := Lib.hid (S3.out.upd' hcb hu4); clear hu4
          (try dsimp only)
          (try simp only [Act.put, nA, nB, nC])
          clear hHeld
          refine hK.out _ _ ?_ (fun hHeld => ?_)
          · exact S4.out.blk
          clear hK K
          (try simp only [Act.put, nA, nB, nC])
          refine wpAnyM_oneS 6 rfl (by kernel_rfl) (fun K hK => ?_)
          go_simp
          (refine (turned_any T (uniV T) _).mono ?_); rintro e w5 ⟨rfl, hb5⟩; have S5 := Lib.hid (S4.out.down hb5); clear hb5; (rw [HY.out])
          (try dsimp only)
          (try simp only [Act.put, nA, nB, nC])
          clear hHeld
          refine hK.out _ _ ?_ (fun hHeld => ?_)
          · exact S5.out.blk
          clear hK K
          (try simp only [Act.put, nA, nB, nC])
          refine wpAnyM_oneS 7 rfl (by kernel_rfl) (fun K hK => ?_)
          go_simp
          (refine (clamp24_any c _ Y w5 (S5.out.upd.cellc HC.out) ((S5.out.upd.frozen hcb).trans HF.out)).mono ?_); rintro e w6 ⟨rfl, hu6⟩; have S6 := Lib.hid (S5.out.upd' hcb hu6); have P6 := S6.out.blk; clear hu6
          (try dsimp only)
          (try simp only [Act.put, nA, nB, nC])
          clear hHeld
          refine hK.out _ _ ?_ (fun hHeld => ?_)
          · exact S6.out.blk
          clear hK K
          (try simp only [Act.put, nA, nB, nC])
          refine wpAnyM_one 8 rfl (by kernel_rfl) (fun K hK => ?_)
          go_simp; rw [if_pos (arrv_size _ _), run_storeCells_row _ P6]; go_simp
          refine hK.out _ _ (.inl (by kernel_rfl)) (fun _ => ?_)
          clear hK K
          (try simp only [Act.put, nA, nB, nC])
          refine wpAnyM_done (by kernel_rfl) ?_ _
          have S7 := Lib.hid (S6.out.row (clmF Y))
          generalize w6.setRow w.heap.size (arrv 24 (clmF Y)) = W7 at *
          clear P6 S6 S5 S4 S3 S2 P2
          go_wp2_with fail
          go_roundw
          case rel =>
            refine ⟨j + 1, by omega, by go_num, ?_⟩
            rw [HST.out.1, HST.out.2, HE2.out.1, HE2.out.2]
            exact S7.out
          case measure => simp [intOf]; omega
    · have hjn : j = n := by omega
      subst hjn
      have d1 : decide (j < j) = false := by simp
      have V := R.out.blk
      have X := R.out.res
      have U := Lib.hid R.out.upd
      clear R hlt hj S0
      go_wp2_with (first | (refine wpList_load_row rfl 23 _ rfl (w.heap.size) rfl 23 _ (0, 0) _ (V) Try.underlying23 rfl (ist.trans (by rw [arrv_size])) ?_) | (refine wpList_store_row rfl 23 _ _ rfl (w.heap.size + 1) _ rfl rfl 23 _ (X) (ist.trans (by rw [arrv_size])) (by rw [arrv_size, arrv_size]) (oneCell_arrv _ _) ?_))
      refine bodyPost_ret (results_cell_row Try.results23 _ _ (w.heap.size + 1) 23 (arrv 24 (addNF S D j)) (0, 0) _ rfl (setRow_heap _ _ _ _ _ _ X) Try.underlying23 rfl (ist.trans (by rw [arrv_size]))) rfl ⟨rfl, ?_⟩
      exact U.out.then' (below_row (Below.refl _ _) (by omega) _)
end Go.Proofs.Ytpbgglkopfjagaa
/- A slice of one array of 24 numbers, built. -/
namespace Go.Proofs.Ytpbgglkopfjagaa
open Go.RowKit
open Go
set_option maxRecDepth 100000
theorem fill24 (D : Nat → Int) (pl : Nat → Option (Nat × Nat)) (hp : pl 0 = some (0, 24)) (Z : Array Value) (hZ : Z = arrv 24 (fun _ => 0)) : Instr.fill pl Z [(0, .agg (arrv 24 D))] = some (arrv 24 D) := by
  subst hZ
  have h := fill_first pl 24 0 D hp
  rw [h]
  exact congrArg some (arrv_congr fun i hi => by rw [if_pos (by omega)])
theorem zrange24 (Z : Array Value) (hZ : Z = arrv 24 (fun _ => 0)) : (Array.range 24).map (fun i => Z[i % Z.size]!) = arrv 24 (fun _ => 0) := by
  subst hZ; kernel_rfl
theorem run_buildSlice24 (D : Nat → Int) (w : World) : (Instr.buildSlice 96 1 #[(0, .agg (arrv 24 D))]).run Try.prog w = .ok (.slice (some ⟨w.heap.size, 0, none⟩) 1 1) (w.alloc (.cells (arrv 24 D) 22)) := by
  have hz : (zeroValue 22).run Try.prog w = .ok (.agg (arrv 24 (fun _ => 0))) w := by kernel_rfl
  have hs : (sizeOf 22).run Try.prog w = .ok 24 w := by kernel_rfl
  unfold Instr.buildSlice
  simp only [Sem.run_bind, run_underlying Try.underlying96, Result.andThen_ok, hs, Nat.one_mul]
  rw [if_neg (by decide), if_neg (by decide)]
  have hf : Instr.fill (fun i => some (i * 24, 24)) (Array.map (fun x => (Value.agg (arrv 24 (fun _ => 0))).cells[x % (Value.agg (arrv 24 (fun _ => 0))).cells.size]!) (Array.range 24)) [(0, Value.agg (arrv 24 D))] = some (arrv 24 D) :=
    fill24 D _ rfl _ (zrange24 (arrv 24 (fun _ => 0)) rfl)
  simp only [Sem.run_bind, hz, Result.andThen_ok, Sem.run_pure, hf]
  simp [newRow, newObj, go_sem]
  rfl
/-- At the operation. -/
theorem wp_bsl24 {o : Oper} {a : Act} {w : World} {K : Act → World → Prop} {Q : Exit → Act → World → Prop} {D : Nat → Int} (x : Operand) (ho : o.op = .buildSlice 96 1 #[(0, x)])
    (hx : a.eval x = .agg (arrv 24 D)) (h : K (a.put o.dst (.slice (some ⟨w.heap.size, 0, none⟩) 1 1)) (w.alloc (.cells (arrv 24 D) 22))) : o.wp Try.prog a w K Q := by
  unfold Oper.wp execOp
  simp only [ho, Sem.run_bind, List.map_toArray, List.map_cons, List.map_nil, hx, run_buildSlice24 D w, Result.andThen_ok]
  exact h
end Go.Proofs.Ytpbgglkopfjagaa
/- Plain numbers: is a number as near as its gate asks? No program. -/
namespace Go.Proofs.Ytpbgglkopfjagaa
def likB (y s gate : Int) : Bool := decide (1 ≤ gate) && decide (gate ≤ 1000) && decide (1 ≤ satV s) && decide (satV y * satV y ≤ gate * gate * 65536 * satV s)
theorem gate_bd {g : Int} (h1 : 1 ≤ g) (h2 : g ≤ 1000) : 1 ≤ g * g ∧ g * g ≤ 1000000 := by
  have a : 1 * 1 ≤ g * g := Int.mul_le_mul h1 h1 (by decide) (by omega)
  have b : g * g ≤ 1000 * 1000 := Int.mul_le_mul h2 h2 (by omega) (by decide)
  omega
theorem lik_bd {g s : Int} (h1 : 1 ≤ g) (h2 : g ≤ 1000) (hs : 1 ≤ satV s) : 0 ≤ g * g * 65536 * satV s ∧ g * g * 65536 * satV s ≤ 75557863725914323419136000000 := by
  obtain ⟨a, b⟩ := gate_bd h1 h2
  have c := (satV_bd s).2
  have e : g * g * 65536 * satV s ≤ 65536000000 * 1152921504606846976 := Int.mul_le_mul (by omega) c (by omega) (by decide)
  refine ⟨Int.mul_nonneg (by omega) (by omega), by omega⟩
end Go.Proofs.Ytpbgglkopfjagaa
/- Contracts of wide.Cmp and fuse.Likely. -/
namespace Go.Proofs.Ytpbgglkopfjagaa
open Go.RowKit
set_option maxRecDepth 100000
def cmpV (A B : Int) : Int := if A = B then 0 else if A < B then -1 else 1
theorem cmp_any (A B : Int) (w : World) : Calls Try.prog 31 #[.agg #[.int .i64 (hi64 A), .int .u64 (lo64 A)], .agg #[.int .i64 (hi64 B), .int .u64 (lo64 B)]] w fun e w' => e = .returned (.int .i64 (cmpV A B)) ∧ Below w.heap.size w w' := by
  by_cases h : A = B
  · subst h
    have E := Lib.hid (show cmpV A A = 0 by unfold cmpV; rw [if_pos rfl])
    go_enter Try.func31, Try.ntmps31
    go_wp2_with fail
    go_ret
    exact ⟨by rw [E.out]; rfl, by (repeat (first | with_reducible exact Below.refl _ _ | with_reducible apply Below.drew | (with_reducible refine below_drewN ?_ _) | (with_reducible refine Below.alloc ?_ (by (try simp) <;> omega) _) | (with_reducible refine Below.setCell ?_ (by (try simp) <;> omega) _)))⟩
  · by_cases h1 : hi64 A < hi64 B
    · have E := Lib.hid (show cmpV A B = -1 by unfold cmpV; rw [if_neg h, if_pos (by unfold hi64 at h1; omega)])
      have d1 : (hi64 A == hi64 B) = false := by simp; omega
      have d2 : decide (hi64 A < hi64 B) = true := by simpa using h1
      clear h h1
      go_enter Try.func31, Try.ntmps31
      go_wp2_with fail
      go_ret
      exact ⟨by rw [E.out]; rfl, by (repeat (first | with_reducible exact Below.refl _ _ | with_reducible apply Below.drew | (with_reducible refine below_drewN ?_ _) | (with_reducible refine Below.alloc ?_ (by (try simp) <;> omega) _) | (with_reducible refine Below.setCell ?_ (by (try simp) <;> omega) _)))⟩
    · by_cases h2 : hi64 A = hi64 B
      · have d1 : (hi64 A == hi64 B) = true := by simpa using h2
        have d2 : decide (hi64 A < hi64 B) = false := by simpa using h1
        have d3 : (lo64 A == lo64 B) = false := by simp; intro e; exact h (by have := hilo A; have := hilo B; omega)
        by_cases h3 : lo64 A < lo64 B
        · have E := Lib.hid (show cmpV A B = -1 by unfold cmpV; rw [if_neg h, if_pos (by have := hilo A; have := hilo B; omega)])
          have d4 : decide (lo64 A < lo64 B) = true := by simpa using h3
          clear h h1 h2 h3
          go_enter Try.func31, Try.ntmps31
          go_wp2_with fail
          go_ret
          exact ⟨by rw [E.out]; rfl, by (repeat (first | with_reducible exact Below.refl _ _ | with_reducible apply Below.drew | (with_reducible refine below_drewN ?_ _) | (with_reducible refine Below.alloc ?_ (by (try simp) <;> omega) _) | (with_reducible refine Below.setCell ?_ (by (try simp) <;> omega) _)))⟩
        · have E := Lib.hid (show cmpV A B = 1 by unfold cmpV; rw [if_neg h, if_neg (by have := hilo A; have := hilo B; omega)])
          have d4 : decide (lo64 A < lo64 B) = false := by simpa using h3
          clear h h1 h2 h3
          go_enter Try.func31, Try.ntmps31
          go_wp2_with fail
          go_ret
          exact ⟨by rw [E.out]; rfl, by (repeat (first | with_reducible exact Below.refl _ _ | with_reducible apply Below.drew | (with_reducible refine below_drewN ?_ _) | (with_reducible refine Below.alloc ?_ (by (try simp) <;> omega) _) | (with_reducible refine Below.setCell ?_ (by (try simp) <;> omega) _)))⟩
      · have E := Lib.hid (show cmpV A B = 1 by unfold cmpV; rw [if_neg h, if_neg (by unfold hi64 at h1 h2; omega)])
        have d1 : (hi64 A == hi64 B) = false := by simpa using h2
        have d2 : decide (hi64 A < hi64 B) = false := by simpa using h1
        clear h h1 h2
        go_enter Try.func31, Try.ntmps31
        go_wp2_with fail
        go_ret
        exact ⟨by rw [E.out]; rfl, by (repeat (first | with_reducible exact Below.refl _ _ | with_reducible apply Below.drew | (with_reducible refine below_drewN ?_ _) | (with_reducible refine Below.alloc ?_ (by (try simp) <;> omega) _) | (with_reducible refine Below.setCell ?_ (by (try simp) <;> omega) _)))⟩
set_option maxHeartbeats 1000000 in
theorem likely_any (y s g : Int) (w : World) (_g0 : -9223372036854775808 ≤ g) (_g1 : g ≤ 9223372036854775807) :
    Calls Try.prog 14 #[.int .i64 y, .int .i64 s, .int .i64 g] w fun e w' => e = .returned (.bool (likB y s g)) ∧ Below w.heap.size w w' := by
  have S1 := Lib.hid (sat_any ⟨w.heap.size, 0, none⟩ false y (w.alloc (.cells #[.bool false] 31)) (by simp) (by simp))
  have S2 := Lib.hid (sat_any ⟨w.heap.size, 0, none⟩ (satH y) s (w.alloc (.cells #[.bool (satH y)] 31)) (by simp) (by simp))
  have B2 : Hid (Below w.heap.size w ((w.alloc (.cells #[.bool (satH y)] 31)).setCell ⟨w.heap.size, 0, none⟩ (.bool (satH y || satH s)))) := Lib.hid (by (repeat (first | with_reducible exact Below.refl _ _ | with_reducible apply Below.drew | (with_reducible refine below_drewN ?_ _) | (with_reducible refine Below.alloc ?_ (by (try simp) <;> omega) _) | (with_reducible refine Below.setCell ?_ (by (try simp) <;> omega) _))))
  have sy := satV_bd y
  have ss := satV_bd s
  have HL : Hid (likB y s g = (decide (1 ≤ g) && decide (g ≤ 1000) && decide (1 ≤ satV s) && decide (satV y * satV y ≤ g * g * 65536 * satV s))) := Lib.hid rfl
  have PY := prod_bd y y
  have LB := fun h1 h2 h3 => lik_bd (g := g) (s := s) h1 h2 h3
  have LB := Lib.hid LB
  obtain ⟨Y, hY⟩ : ∃ Y, satV y = Y := ⟨_, rfl⟩
  obtain ⟨S, hS⟩ : ∃ S, satV s = S := ⟨_, rfl⟩
  rw [hY] at S1 sy HL PY
  rw [hS] at S2 ss HL LB
  clear hY hS
  by_cases h1 : g < 1
  · have d1 : decide (g < 1) = true := by simpa using h1
    have E := Lib.hid (show likB y s g = false by rw [HL.out, show decide (1 ≤ g) = false by simp; omega]; rfl)
    go_enter Try.func14, Try.ntmps14
    go_wp2_with fail
    refine S1.out.mono ?_; rintro e w' ⟨rfl, rfl⟩
    go_wp2_with fail
    refine S2.out.mono ?_; rintro e w' ⟨rfl, rfl⟩
    go_wp2_with fail
    go_ret
    exact ⟨by rw [E.out]; rfl, by (repeat (first | with_reducible exact Below.refl _ _ | with_reducible apply Below.drew | (with_reducible refine below_drewN ?_ _) | (with_reducible refine Below.alloc ?_ (by (try simp) <;> omega) _) | (with_reducible refine Below.setCell ?_ (by (try simp) <;> omega) _)))⟩
  · by_cases h2 : 1000 < g
    · have d1 : decide (g < 1) = false := by simpa using h1
      have d2 : decide (1000 < g) = true := by simpa using h2
      have E := Lib.hid (show likB y s g = false by rw [HL.out, show decide (g ≤ 1000) = false by simp; omega]; simp)
      go_enter Try.func14, Try.ntmps14
      go_wp2_with fail
      refine S1.out.mono ?_; rintro e w' ⟨rfl, rfl⟩
      go_wp2_with fail
      refine S2.out.mono ?_; rintro e w' ⟨rfl, rfl⟩
      go_wp2_with fail
      go_ret
      exact ⟨by rw [E.out]; rfl, by (repeat (first | with_reducible exact Below.refl _ _ | with_reducible apply Below.drew | (with_reducible refine below_drewN ?_ _) | (with_reducible refine Below.alloc ?_ (by (try simp) <;> omega) _) | (with_reducible refine Below.setCell ?_ (by (try simp) <;> omega) _)))⟩
    · by_cases h3 : S < 1
      · have d1 : decide (g < 1) = false := by simpa using h1
        have d2 : decide (1000 < g) = false := by simpa using h2
        have d3 : decide (S < 1) = true := by simpa using h3
        have E := Lib.hid (show likB y s g = false by rw [HL.out, show decide (1 ≤ S) = false by simp; omega]; simp)
        go_enter Try.func14, Try.ntmps14
        go_wp2_with fail
        refine S1.out.mono ?_; rintro e w' ⟨rfl, rfl⟩
        go_wp2_with fail
        refine S2.out.mono ?_; rintro e w' ⟨rfl, rfl⟩
        go_wp2_with fail
        go_ret
        exact ⟨by rw [E.out]; rfl, by (repeat (first | with_reducible exact Below.refl _ _ | with_reducible apply Below.drew | (with_reducible refine below_drewN ?_ _) | (with_reducible refine Below.alloc ?_ (by (try simp) <;> omega) _) | (with_reducible refine Below.setCell ?_ (by (try simp) <;> omega) _)))⟩
      · have d1 : decide (g < 1) = false := by simpa using h1
        have d2 : decide (1000 < g) = false := by simpa using h2
        have d3 : decide (S < 1) = false := by simpa using h3
        have gb := gate_bd (g := g) (by omega) (by omega)
        have lb := LB.out (by omega) (by omega) (by omega)
        obtain ⟨Q, hQ⟩ : ∃ Q, g * g = Q := ⟨_, rfl⟩
        rw [hQ] at gb lb
        obtain ⟨G, hG⟩ : ∃ G, Q * 65536 = G := ⟨_, rfl⟩
        rw [hG] at lb
        obtain ⟨M1, hM1⟩ : ∃ M, Y * Y = M := ⟨_, rfl⟩
        obtain ⟨M2, hM2⟩ : ∃ M, G * S = M := ⟨_, rfl⟩
        have e1 : IntKind.i64.wrap (g * g) = Q := by rw [hQ]; exact IntWalk.i64_in _ (by omega)
        have e2 : IntKind.i64.wrap (Q * 65536) = G := by rw [hG]; exact IntWalk.i64_in _ (by omega)
        rw [hM1] at PY
        rw [hM2] at lb
        have A1 := Lib.hid (fun w => mul_any Y Y M1 w (by omega) (by omega) (by omega) (by omega) hM1 (by omega) (by omega))
        have A2 := Lib.hid (fun w => mul_any G S M2 w (by omega) (by omega) (by omega) (by omega) hM2 (by omega) (by omega))
        have A3 := Lib.hid (fun w => cmp_any M1 M2 w)
        have E : Hid (likB y s g = decide (cmpV M1 M2 ≤ 0)) := by
          rw [hQ, hG, hM1, hM2] at HL
          refine Lib.hid (HL.out.trans ?_)
          rw [show decide (1 ≤ g) = true by simp; omega, show decide (g ≤ 1000) = true by simp; omega, show decide (1 ≤ S) = true by simp; omega]
          unfold cmpV
          rw [Bool.eq_iff_iff]
          simp only [Bool.true_and, decide_eq_true_eq]
          split
          · omega
          · split <;> omega
        obtain ⟨C, hC⟩ : ∃ C, cmpV M1 M2 = C := ⟨_, rfl⟩
        rw [hC] at E
        have A3 : Hid (∀ w, Calls Try.prog 31 #[.agg #[.int .i64 (hi64 M1), .int .u64 (lo64 M1)], .agg #[.int .i64 (hi64 M2), .int .u64 (lo64 M2)]] w fun e w' => e = .returned (.int .i64 C) ∧ Below w.heap.size w w') := by rw [← hC]; exact A3
        clear hQ hG hM1 hM2 hC gb lb PY HL LB sy ss
        go_enter Try.func14, Try.ntmps14
        go_wp2_with fail
        refine S1.out.mono ?_; rintro e w' ⟨rfl, rfl⟩
        go_wp2_with fail
        refine S2.out.mono ?_; rintro e w' ⟨rfl, rfl⟩
        generalize (w.alloc (.cells #[.bool (satH y)] 31)).setCell ⟨w.heap.size, 0, none⟩ (.bool (satH y || satH s)) = w2 at *
        go_wp2_with fail
        refine (A1.out _).mono ?_; rintro e w3 ⟨rfl, hb3⟩
        have B3 := Lib.hid (Below.after B2.out hb3)
        clear hb3
        go_wp2_with fail
        refine (A2.out _).mono ?_; rintro e w4 ⟨rfl, hb4⟩
        have B4 := Lib.hid (Below.after B3.out hb4)
        clear hb4
        go_wp2_with fail
        refine (A3.out _).mono ?_; rintro e w5 ⟨rfl, hb5⟩
        have B5 := Lib.hid (Below.after B4.out hb5)
        clear hb5
        go_wp2_with fail
        go_ret
        exact ⟨by rw [E.out]; rfl, B5.out⟩
end Go.Proofs.Ytpbgglkopfjagaa
