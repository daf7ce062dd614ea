/- Contracts of the program's functions and plain laws, part 7: they hold for all arguments. -/
import Derived.Test.YtgfklheepkgedaaGreatQ06
import Derived.Tactics
import Derived.ProofKit
import Derived.Test.YtgfklheepkgedaaGreatQ03
import Derived.Test.YtgfklheepkgedaaGreatQ05
/- Contract of state.unit. -/
namespace Go.Proofs.YtgfklheepkgedaaGreat
open Go.RowKit
set_option maxRecDepth 100000
theorem fabs_any (a : Int) (w : World) : Calls Tryz.prog 77 #[.int .i64 a] w fun e w' => e = .returned (.int .i64 (absV a)) ∧ w = w' := by
 by_cases ha : 1152921504606846976 ≤ a
 ·have e : absV a = 1152921504606846976 := by unfold absV; rw [if_pos (.inl ha)]
  have d1 : decide (1152921504606846976 ≤ a) = true := by simpa using ha
  have E := Lib.hid e
  clear e
  go_enter Tryz.func77, Tryz.ntmps77
  go_wp2_with fail
  go_ret
  exact ⟨retI E.out.symm, rfl⟩
 ·have d1 : decide (1152921504606846976 ≤ a) = false := by simpa using ha
  by_cases hb : a ≤ -1152921504606846976
  ·have e : absV a = 1152921504606846976 := by unfold absV; rw [if_pos (.inr hb)]
   have d2 : decide (a ≤ -1152921504606846976) = true := by simpa using hb
   have E := Lib.hid e
   clear e
   go_enter Tryz.func77, Tryz.ntmps77
   go_wp2_with fail
   go_ret
   exact ⟨retI E.out.symm, rfl⟩
  ·have d2 : decide (a ≤ -1152921504606846976) = false := by simpa using hb
   by_cases hz : a < 0
   ·have e : absV a = -a := by unfold absV; rw [if_neg (by omega), if_pos hz]
    have d3 : decide (a < 0) = true := by simpa using hz
    have E := Lib.hid e
    clear e
    go_enter Tryz.func77, Tryz.ntmps77
    go_wp2_with fail
    go_ret
    exact ⟨retI E.out.symm, rfl⟩
   ·have e : absV a = a := by unfold absV; rw [if_neg (by omega), if_neg hz]
    have d3 : decide (a < 0) = false := by simpa using hz
    have E := Lib.hid e
    clear e
    go_enter Tryz.func77, Tryz.ntmps77
    go_wp2_with fail
    go_ret
    exact ⟨retI E.out.symm, rfl⟩
/-- The cells of n numbers of 128 bits. -/
def wcells (n : Nat) (L : Nat → Int) : List Value := (List.range n).flatMap fun i => [.int .i64 (hi64 (L i)), .int .u64 (lo64 (L i))]
theorem wcells_succ (n : Nat) (L : Nat → Int) : wcells (n + 1) L = wcells n L ++ [.int .i64 (hi64 (L n)), .int .u64 (lo64 (L n))] := by
 simp [wcells, List.range_succ, List.flatMap_append]
def OwnW (w : World) (B : Nat) (v : Value) (n : Nat) (L : Nat → Int) : Prop := w.ownsRow B 117 2 v n (wcells n L)
theorem OwnW.nil (w : World) (B : Nat) (L : Nat → Int) : OwnW w B (.slice none 0 0) 0 L := World.ownsRow_nil w B 117 2
theorem OwnW.below {w w' : World} {B : Nat} {v : Value} {n : Nat} {L : Nat → Int} (h : OwnW w B v n L) (b : Below w.heap.size w w') : OwnW w' B v n L := by
 refine ⟨h.1, ?_⟩
 rcases h.2 with hn | ⟨g, cap, cur, rfl, hb, hgg, rest⟩
 ·exact .inl hn
 ·refine .inr ⟨g, cap, cur, rfl, hb, ?_, rest⟩
  rw [b.block g (Array.getElem?_eq_some_iff.1 hgg).1]
  exact hgg
theorem OwnW.alloc {w : World} {B : Nat} {v : Value} {n : Nat} {L : Nat → Int} (h : OwnW w B v n L) (o : Obj) : OwnW (w.alloc o) B v n L := h.below ((Below.refl _ _).alloc (Nat.le_refl _) o)
/-- Four of them, as cells. -/
theorem OwnW.four {w : World} {B : Nat} {v : Value} {L : Nat → Int} (h : OwnW w B v 4 L) :
  ∃ g cp, v = .slice (some ⟨g, 0, none⟩) 4 cp ∧ ∀ i, i < 4 → w.cell? ⟨g, 2 * i, none⟩ = some (.int .i64 (hi64 (L i))) ∧ w.cell? ⟨g, 2 * i + 1, none⟩ = some (.int .u64 (lo64 (L i))) := by
 rcases h.2 with ⟨_, h0⟩ | ⟨g, cap, cur, rfl, hb, hgg, h1, h2, h3, h4⟩
 ·omega
 ·refine ⟨g, cap, rfl, fun i hi => ?_⟩
  have hc : ∀ j v, (wcells 4 L)[j]? = some v → w.cell? ⟨g, j, none⟩ = some v := fun j v hj => by
   rw [cell_of_row w g j cur 117 (0, 0) hgg]
   rw [← h4, List.getElem?_take] at hj
   split at hj
   ·simpa using hj
   ·cases hj
  obtain rfl | rfl | rfl | rfl : i = 0 ∨ i = 1 ∨ i = 2 ∨ i = 3 := by omega
  all_goals exact ⟨hc _ _ rfl, hc _ _ rfl⟩
theorem info_W' : ∃ i, Tryz.prog.info? 117 = some i ∧ i.zero = some (.agg #[.int .i64 0, .int .u64 0]) ∧ i.size = 2 ∧ i.bytes = 16 := by
 have h : (Tryz.prog.info? 117).map (fun i => (i.zero, i.size, i.bytes)) = some (some (.agg #[.int .i64 0, .int .u64 0]), 2, 16) := by kernel_rfl
 cases e : Tryz.prog.info? 117 with
 | none => rw [e] at h; cases h
 | some i => rw [e] at h; simp at h; exact ⟨i, rfl, h.1, h.2.1, h.2.2⟩
theorem wpList_appW {w : World} {ops : Array Oper} {rest : List Oper} {o : Oper} {a : Act} {Q : Exit → Act → World → Prop} (hgd : o.guard = none) (s x : Operand)
  (ho : o.op = .call { callee := .builtin .append, args := #[s, x], argTypes := #[114, 114] })
  (B : Nat) {v : Value} {n : Nat} {L : Nat → Int} (hs : a.eval s = v) (hown : OwnW w B v n L) (nb c : Nat) (hx : a.eval x = .slice (some ⟨nb, 0, none⟩) 1 c)
  (hy : w.cell? ⟨nb, 0, none⟩ = some (.int .i64 (hi64 (L n))) ∧ w.cell? ⟨nb, 1, none⟩ = some (.int .u64 (lo64 (L n)))) (hn : n ≤ 1000000) (hB : B ≤ w.heap.size) (H : Nat) (hH : w.heap.size = H)
  (h : ∀ g cap w', OwnW w' B (.slice (some ⟨g, 0, none⟩) (n + 1) cap) (n + 1) L → w.grownBy w' v.ownBlock → (v.ownBlock = some g ∨ g = H) → g < w'.heap.size → wpList Tryz.prog ops Q rest (a.put o.dst (.slice (some ⟨g, 0, none⟩) (n + 1) cap)) w') : wpList Tryz.prog ops Q (o :: rest) a w := by
 obtain ⟨i, hi, hz, hsz, hb⟩ := info_W'
 refine wpList_append_lies w hgd s x 114 ho B 117 i _ 2 16 Tryz.underlying114 hi hz hsz hb rfl (by decide) v n (wcells n L) hs hown ⟨nb, 0, none⟩ 1 c [.int .i64 (hi64 (L n)), .int .u64 (lo64 (L n))] hx rfl
  (fun j u hu => ?_) (fun u hu => ?_) (by decide) (by unfold maxLen; omega) (by omega) hB H hH (fun g cap w' h1 h2 h3 h4 => h g cap w' (by unfold OwnW; rw [wcells_succ]; exact h1) h2 h3 h4)
 ·have hj : j < 2 := (List.getElem?_eq_some_iff.1 hu).1
  rcases (show j = 0 ∨ j = 1 by omega) with h | h
  ·rw [h] at hu ⊢; simp at hu; rw [← hu]; exact hy.1
  ·rw [h] at hu ⊢; simp at hu; rw [← hu]; exact hy.2
 ·simp at hu; rcases hu with rfl | rfl <;> rfl
open Go in
/-- A number of an array that came as a value. -/
theorem run_index_vec {n : Nat} {T : TypeId} (hT : Tryz.prog.underlying T = some (.array n 2)) {o : Oper} {ev : Operand → Value} {w : World} {f : Nat → Int} (x y : Operand) (ho : o.op = .index T x y) (hx : ev x = .agg (arrv n f)) (k : Nat)
  (hy : ev y = .int .i64 (k : Int)) (hk : k < n) : (execOp ev o).run Tryz.prog w = .ok (.value (.int .i64 (f k))) w := by
 have e2 : (arrv n f)[k]? = some (.int .i64 (f k)) := arrv_get hk
 unfold execOp
 simp only [ho, hx, hy, Sem.run_bind]
 simp [Instr.index, run_underlying hT, asIntOf, hk, go_sem, part, e2]
theorem OwnW.blk {w : World} {B : Nat} {v : Value} {n : Nat} {L : Nat → Int} (h : OwnW w B v n L) {g : Nat} (e : v.ownBlock = some g) : B ≤ g := by
 rcases h.2 with ⟨rfl, _⟩ | ⟨g', cap, cur, rfl, hb, _⟩
 ·cases e
 ·simp [Value.ownBlock] at e; omega
structure UnR (A : Nat → Int) (k : Nat) (v : Value) (w wr : World) : Prop where
 ok : inQs A k = true
 own : OwnW wr (w.heap.size + 1) v k (sqA A)
 below : Below w.heap.size w wr
 sz : w.heap.size < wr.heap.size
set_option maxHeartbeats 2000000 in
theorem sunit_any (A : Nat → Int) (w : World) : Calls Tryz.prog 40 #[.agg (arrv 4 A)] w fun e w' => e = .returned (.bool (unitB A)) ∧ Below w.heap.size w w' := by
 have P0 : Blk (w.alloc (.cells (arrv 4 A) 38)) w.heap.size 38 4 A := Blk.new w _ 4 _
 have B0 := Lib.hid (show Below w.heap.size w (w.alloc (.cells (arrv 4 A) 38)) by (repeat (first | with_reducible exact Below.refl _ _ | with_reducible apply Below.drew | (with_reducible refine below_drewN ?_ _) | (with_reducible refine Below.alloc ?_ (by (try simp) <;> omega) _) | (with_reducible refine Below.setCell ?_ (by (try simp) <;> omega) _))))
 go_enter Tryz.func40, Tryz.ntmps40
 go_upto_region 2 with fail
 generalize w.alloc (.cells (arrv 4 A) 38) = W0 at *
 have hz0 := Lib.hid P0.lt
 go_wp2_with (refine wpList_load_row rfl 38 _ rfl (w.heap.size) rfl 38 _ (0, 0) _ (P0) Tryz.underlying38 rfl (iqt.trans (by rw [arrv_size])) ?_)
 go_loopw [3, 11] (fun v i wr => ∃ k : Nat, k ≤ 4 ∧ i = .int .i64 k ∧ Hid (UnR A k v w wr)) (fun _ i _ => 4 - (intOf i).toNat)
 case atStart => exact ⟨0, by omega, rfl, ⟨rfl, OwnW.nil _ _ _, B0.out, hz0.out⟩⟩
 case round =>
  obtain ⟨k, hk, rfl, R⟩ := hrel
  clear P0
  by_cases hlt : k < 4
  ·have d1 : decide ((k : Int) < 4) = true := by simp; omega
   go_upto_region 4 with fail
   refine wp_region_lit ?_
   refine wpList_val (v := ?_) rfl ?_ ?_
   rotate_left
   ·refine Eq.trans (run_index_vec Tryz.underlying38 (.tmp 10) (.tmp 11) (by rfl) (by rfl) k (by rfl) hlt) ?_; with_reducible rfl
   (try simp only [Act.put, nA, nB, nC])
   refine tv ?_
   (try simp only [Act.put, nA, nB, nC])
   refine wpList_nil ?_
   have hin := absV_in (A k)
   by_cases hq : inQ (A k) = true
   ·rw [hq] at hin
    have d2 : decide (1073741840 < absV (A k)) = false := hin
    have hb := sq_bd hq
    have MU := Lib.hid (fun w => mul_any (A k) (A k) (sqA A k) w (by simp only [inQ, Bool.and_eq_true, decide_eq_true_eq] at hq; omega) (by simp only [inQ, Bool.and_eq_true, decide_eq_true_eq] at hq; omega) (by simp only [inQ, Bool.and_eq_true, decide_eq_true_eq] at hq; omega) (by simp only [inQ, Bool.and_eq_true, decide_eq_true_eq] at hq; omega) rfl (by unfold sqA; omega) (by unfold sqA; omega))
    have OK : Hid (inQs A (k + 1) = true) := Lib.hid (by simp only [inQs]; rw [R.out.ok, hq]; rfl)
    clear hin hq hb
    go_wp2_with fail
    refine (fabs_any (A k) _).mono ?_; rintro e w' ⟨rfl, rfl⟩
    go_wp2_with fail
    refine (MU.out _).mono ?_; rintro e w2 ⟨rfl, hb2⟩
    have O2 := Lib.hid ((R.out.own.below hb2).alloc (.cells #[.int .i64 (hi64 (sqA A k)), .int .u64 (lo64 (sqA A k))] 117))
    have B2 := Lib.hid ((Below.after R.out.below hb2).alloc (by have := hb2.size; have := R.out.sz; omega) (.cells #[.int .i64 (hi64 (sqA A k)), .int .u64 (lo64 (sqA A k))] 117))
    have Z2 : w.heap.size < w2.heap.size := by have := hb2.size; have := R.out.sz; omega
    clear hb2 MU
    go_wp2_with (refine wpList_appW rfl (.tmp 17) (.tmp 21) rfl (w.heap.size + 1) rfl O2.out w2.heap.size 1 rfl ⟨by simp [go_sem], by simp [go_sem]⟩ (by omega) (by simp; omega) _ rfl ?_; intro g cp w3 hO3 hg3 _ hlt3)
    have B3 := Lib.hid (below_grown B2.out hg3 (fun g e => by have := O2.out.blk e; omega) (by simp; omega))
    have S3 : Hid (UnR A (k + 1) (.slice (some ⟨g, 0, none⟩) (k + 1) cp) w w3) := Lib.hid ⟨OK.out, hO3, B3.out, by have := hg3.size; simp at this; omega⟩
    clear hO3 hg3 hlt3 O2 B2 B3 OK R
    go_roundw
    case rel => exact ⟨k + 1, by omega, by go_num, S3.out⟩
    case measure => simp [intOf]; omega
   ·have hq2 : inQ (A k) = false := by simpa using hq
    rw [hq2] at hin
    have d2 : decide (1073741840 < absV (A k)) = true := hin
    have NO := Lib.hid (unitB_no (A := A) (n := k + 1) (by simp only [inQs]; rw [hq2, Bool.and_false]) (by omega))
    clear hin hq hq2
    go_wp2_with fail
    refine (fabs_any (A k) _).mono ?_; rintro e w' ⟨rfl, rfl⟩
    go_wp2_with fail
    go_ret
    exact ⟨by rw [NO.out]; rfl, R.out.below⟩
  ·have hk4 : k = 4 := by omega
   subst hk4
   rw [show ((4 : Nat) : Int) = 4 from rfl]
   have hq := R.out.ok
   obtain ⟨g, cp, rfl, hc⟩ := R.out.own.four
   have q0 := sqA_bd hq 0 (by decide)
   have q1 := sqA_bd hq 1 (by decide)
   have q2 := sqA_bd hq 2 (by decide)
   have q3 := sqA_bd hq 3 (by decide)
   obtain ⟨S, hS⟩ : ∃ S, sum4 A = S := ⟨_, rfl⟩
   have hS0 : 0 ≤ S ∧ S ≤ 4611686155866342400 := by rw [← hS]; unfold sum4; omega
   have AD := Lib.hid (wadd4_any (sqA A 0) (sqA A 1) (sqA A 2) (sqA A 3) (sqA A 0 + sqA A 1) (sqA A 0 + sqA A 1 + sqA A 2) S g cp wr (by unfold sqA; omega) (by unfold sqA; omega) (by unfold sqA; omega) (by unfold sqA; omega) rfl rfl (by rw [← hS]; rfl)
    (hc 0 (by decide)).1 (hc 0 (by decide)).2 (hc 1 (by decide)).1 (hc 1 (by decide)).2 (hc 2 (by decide)).1 (hc 2 (by decide)).2 (hc 3 (by decide)).1 (hc 3 (by decide)).2)
   have RO := Lib.hid (fun w => round_any S 0 w (by decide) (by decide) (by omega) (by omega))
   have RV : Hid (r64V (rsh S (0 : Int).toNat) = S ∧ r64F (rsh S (0 : Int).toNat) = true) := by
    rw [show (0 : Int).toNat = 0 from rfl, rsh_zero]
    have : r64F S = true := by simp [r64F]; omega
    exact Lib.hid ⟨by simp [r64V, this], this⟩
   have UB : Hid (unitB A = (decide (-4294967296 ≤ S - 1152921504606846976) && decide (S - 1152921504606846976 ≤ 4294967296))) := Lib.hid (by unfold unitB; rw [hq, hS, Bool.true_and])
   have B0 := R.out.below
   have Z0 := R.out.sz
   have HB0 := Lib.hid B0
   clear hc q0 q1 q2 q3 hS hq R hlt hk B0
   go_wp2_with fail
   refine AD.out.mono ?_; rintro e w2 ⟨rfl, hb2⟩
   have B2 := Lib.hid (Below.after HB0.out hb2)
   have Z2 : w.heap.size < w2.heap.size := by have := hb2.size; omega
   clear hb2 AD
   go_wp2_with fail
   refine (RO.out _).mono ?_; rintro e w3 ⟨rfl, hb3⟩
   have B3 := Lib.hid (Below.after (B2.out.alloc (by omega) _) hb3)
   rw [RV.out.1, RV.out.2]
   clear hb3 RO RV
   by_cases h1 : -4294967296 ≤ S - 1152921504606846976
   ·have e1 : decide (-4294967296 ≤ S - 1152921504606846976) = true := by simpa using h1
    have e2 : decide (1152921500311879680 ≤ S) = true := by simp; omega
    by_cases h2 : S - 1152921504606846976 ≤ 4294967296
    ·have e3 : decide (S - 1152921504606846976 ≤ 4294967296) = true := by simpa using h2
     have e4 : decide (S ≤ 1152921508901814272) = true := by simp; omega
     rw [e1, e3] at UB
     go_wp2_with fail
     go_ret
     exact ⟨by rw [UB.out]; rfl, B3.out⟩
    ·have e3 : decide (S - 1152921504606846976 ≤ 4294967296) = false := by simpa using h2
     have e4 : decide (S ≤ 1152921508901814272) = false := by simp; omega
     rw [e1, e3] at UB
     go_wp2_with fail
     go_ret
     exact ⟨by rw [UB.out]; rfl, B3.out⟩
   ·have e1 : decide (-4294967296 ≤ S - 1152921504606846976) = false := by simpa using h1
    have e2 : decide (1152921500311879680 ≤ S) = false := by simp; omega
    rw [e1, Bool.false_and] at UB
    go_wp2_with fail
    go_ret
    exact ⟨by rw [UB.out]; rfl, B3.out⟩
end Go.Proofs.YtgfklheepkgedaaGreat
/- Contracts of package state (4): Good, Keep. -/
namespace Go.Proofs.YtgfklheepkgedaaGreat
open Go.RowKit
set_option maxRecDepth 100000
end Go.Proofs.YtgfklheepkgedaaGreat
/- Contract of state.Keep. -/
namespace Go.Proofs.YtgfklheepkgedaaGreat
open Go.RowKit
set_option maxRecDepth 100000
def keepI (S : Nat → Int) : Nat → Int := if unitB S = true then S else turnd S (uniV S)
def keepF (S : Nat → Int) : Nat → Int := clmF (keepI S)
def keepH (S : Nat → Int) : Bool := (if unitB S = true then false else uniH S) || clmH (keepI S)
structure KpR (c : Addr) (h : Bool) (g : Nat → Int) (w wr : World) : Prop where
 upd : Upd c h w wr
 blk : Blk wr w.heap.size 23 24 g
 res : Blk wr (w.heap.size + 1) 23 24 (fun _ => 0)
theorem KpR.upd' {c : Addr} {h h' : Bool} {g : Nat → Int} {w wr w' : World} (s : KpR c h g w wr) (hc : c.block < w.heap.size) (u : Upd c h' wr w') : KpR c h' g w w' :=
 ⟨s.upd.trans u, s.blk.upd u (by omega), s.res.upd u (by omega)⟩
theorem KpR.down {c : Addr} {h : Bool} {g : Nat → Int} {w wr w' : World} (s : KpR c h g w wr) (u : Below wr.heap.size wr w') : KpR c h g w w' :=
 ⟨s.upd.then u, s.blk.below u, s.res.below u⟩
theorem KpR.row {c : Addr} {h : Bool} {g : Nat → Int} {w wr : World} (s : KpR c h g w wr) (f : Nat → Int) : KpR c h f w (wr.setRow w.heap.size (arrv 24 f)) :=
 ⟨s.upd.then' (below_row (Below.refl _ _) (Nat.le_refl _) _), s.blk.setRow f, s.res.setRow_other _ (by omega)⟩
theorem KpR.drew {c : Addr} {h : Bool} {g : Nat → Int} {w wr : World} (s : KpR c h g w wr) : KpR c h g w wr.drew := ⟨s.upd.drew, s.blk, s.res⟩
set_option maxHeartbeats 2000000 in
theorem keep_any (c : Addr) (h : Bool) (S : Nat → Int) (w : World) (hc : w.cell? c = some (.bool h)) (hf : w.frozen? c = false) :
  Calls Tryz.prog 20 #[.pointer (some c), .agg (arrv 24 S)] w fun e w' => e = .returned (.agg (arrv 24 (keepF S))) ∧ Upd c (h || keepH S) w w' := by
 have hcb := World.block_lt_of_cell? w c hc
 have S0 : Hid (KpR c h S w ((w.alloc (.cells (arrv 24 S) 23)).alloc (.cells #[.int .i64 0, .int .i64 0, .int .i64 0, .int .i64 0, .int .i64 0, .int .i64 0, .int .i64 0, .int .i64 0, .int .i64 0, .int .i64 0, .int .i64 0, .int .i64 0, .int .i64 0, .int .i64 0, .int .i64 0, .int .i64 0, .int .i64 0, .int .i64 0, .int .i64 0, .int .i64 0, .int .i64 0, .int .i64 0, .int .i64 0, .int .i64 0] 23))) := Lib.hid
  ⟨Upd.then (Upd.refl hc) (by (repeat (first | with_reducible exact Below.refl _ _ | with_reducible apply Below.drew | (with_reducible refine below_drewN ?_ _) | (with_reducible refine Below.alloc ?_ (by (try simp) <;> omega) _) | (with_reducible refine Below.setCell ?_ (by (try simp) <;> omega) _)))), (Blk.new w _ 24 _).alloc _, by rw [zvec24]; exact Blk.new1 w _ _ 24 _⟩
 have HC := Lib.hid hc
 have HF := Lib.hid hf
 clear hc hf
 go_enter Tryz.func20, Tryz.ntmps20
 go_upto_region 1 with fail
 generalize (w.alloc (.cells (arrv 24 S) 23)).alloc (.cells #[.int .i64 0, .int .i64 0, .int .i64 0, .int .i64 0, .int .i64 0, .int .i64 0, .int .i64 0, .int .i64 0, .int .i64 0, .int .i64 0, .int .i64 0, .int .i64 0, .int .i64 0, .int .i64 0, .int .i64 0, .int .i64 0, .int .i64 0, .int .i64 0, .int .i64 0, .int .i64 0, .int .i64 0, .int .i64 0, .int .i64 0, .int .i64 0] 23) = W0 at *
 have P0 := S0.out.blk
 by_cases hu : unitB S = true
 ·have E := Lib.hid (show keepF S = clmF S ∧ (h || keepH S) = (h || clmH S) by unfold keepF keepH keepI; rw [if_pos hu, if_pos hu, Bool.false_or]; exact ⟨rfl, rfl⟩)
  go_wp2_with (first | (refine wpList_load_row rfl 23 _ rfl (w.heap.size) rfl 23 _ (0, 0) _ (P0) Tryz.underlying23 rfl (ist.trans (by rw [arrv_size])) ?_) | (go_at_call 24; (refine (att_any S _).mono ?_); rintro e w1 ⟨rfl, hb1⟩; have S1 := Lib.hid (S0.out.down hb1); clear hb1) | (go_at_call 40; (refine (sunit_any S _).mono ?_); rintro e w2 ⟨rfl, hb2⟩; have S2 := Lib.hid (S1.out.down hb2); (rw [hu]); have P2 := S2.out.blk; have CL := Lib.hid (clamp24_any c h S w2 (S2.out.upd.cellc HC.out) ((S2.out.upd.frozen hcb).trans HF.out)); clear hb2) | (refine wpList_load_row rfl 23 _ rfl (w.heap.size) rfl 23 _ (0, 0) _ (P2) Tryz.underlying23 rfl (ist.trans (by rw [arrv_size])) ?_) | (go_at_call 42; (refine CL.out.mono ?_); rintro e w3 ⟨rfl, hu3⟩; have S3 := Lib.hid (S2.out.upd' hcb hu3); have R3 := S3.out.res; clear hu3) | (refine wpList_store_row rfl 23 _ _ rfl (w.heap.size + 1) _ rfl rfl 23 _ (R3) (ist.trans (by rw [arrv_size])) (by rw [arrv_size, arrv_size]) (oneCell_arrv _ _) ?_))
  refine bodyPost_ret (results_cell_row Tryz.results20 _ _ (w.heap.size + 1) 23 (arrv 24 (clmF S)) (0, 0) _ rfl (setRow_heap _ _ _ _ _ _ R3) Tryz.underlying23 rfl (ist.trans (by rw [arrv_size]))) rfl ⟨by rw [E.out.1], ?_⟩
  rw [E.out.2]
  exact S3.out.upd.then' (below_row (Below.refl _ _) (by omega) _)
 ·have hu2 : unitB S = false := by simpa using hu
  obtain ⟨T, hT⟩ : ∃ T, turnd S (uniV S) = T := ⟨_, rfl⟩
  have E := Lib.hid (show keepF S = clmF T ∧ (h || keepH S) = (h || uniH S || clmH T) by unfold keepF keepH keepI; rw [if_neg hu, if_neg hu, hT, ← Bool.or_assoc]; exact ⟨rfl, rfl⟩)
  have HT := Lib.hid hT
  clear hT hu
  go_upto_region 2 with (first | (refine wpList_load_row rfl 23 _ rfl (w.heap.size) rfl 23 _ (0, 0) _ (P0) Tryz.underlying23 rfl (ist.trans (by rw [arrv_size])) ?_) | (go_at_call 24; (refine (att_any S _).mono ?_); rintro e w1 ⟨rfl, hb1⟩; have S1 := Lib.hid (S0.out.down hb1); clear hb1) | (go_at_call 40; (refine (sunit_any S _).mono ?_); rintro e w2 ⟨rfl, hb2⟩; have S2 := Lib.hid (S1.out.down hb2); (rw [hu2]); clear hb2))
  clear S0 S1 P0 hu2
  have P2 := S2.out.blk
  refine wp_region_M (fun w' => Blk w' w.heap.size 23 24 S) 6 (by kernel_rfl) ?_ (fun hHeld => ?_)
  ·exact P2.drew
  refine tl 0 (v := ?_) ?_ ?_
  rotate_left
  ·(intro wx hSw; refine Eq.trans (run_load_row 23 (.tmp 3) (by rfl) w.heap.size (by rfl) _ _ _ _ hSw Tryz.underlying23 rfl (ist.trans (by rw [arrv_size]))) ?_; with_reducible rfl)
  (try simp only [Act.put, nA, nB, nC])
  refine tk 1 ?_
  (try simp only [Act.put, nA, nB, nC])
  refine tl 2 (v := ?_) ?_ ?_
  rotate_left
  ·(intro wx hSw; refine Eq.trans (run_load_row 23 (.tmp 3) (by rfl) w.heap.size (by rfl) _ _ _ _ hSw Tryz.underlying23 rfl (ist.trans (by rw [arrv_size]))) ?_; with_reducible rfl)
  (try simp only [Act.put, nA, nB, nC])
  refine wpAnyM_oneS 3 rfl (by kernel_rfl) (fun K hK => ?_)
  go_simp
  (refine (att_any S _).mono ?_); rintro e w3 ⟨rfl, hb3⟩; have S3 := Lib.hid (S2.out.drew.down hb3); clear hb3
  (try dsimp only)
  (try simp only [Act.put, nA, nB, nC])
  clear hHeld
  refine hK.out _ _ ?_ (fun hHeld => ?_)
  ·exact S3.out.blk
  clear hK K
  (try simp only [Act.put, nA, nB, nC])
  refine wpAnyM_oneS 4 rfl (by kernel_rfl) (fun K hK => ?_)
  go_simp
  (refine (qunit_any c h S w3 (S3.out.upd.cellc HC.out) ((S3.out.upd.frozen hcb).trans HF.out)).mono ?_); rintro e w4 ⟨rfl, hu4⟩; have S4 := Lib.hid (S3.out.upd' hcb hu4); clear hu4
  (try dsimp only)
  (try simp only [Act.put, nA, nB, nC])
  clear hHeld
  refine hK.out _ _ ?_ (fun hHeld => ?_)
  ·exact S4.out.blk
  clear hK K
  (try simp only [Act.put, nA, nB, nC])
  refine wpAnyM_oneS 5 rfl (by kernel_rfl) (fun K hK => ?_)
  go_simp
  (refine (turned_any S (uniV S) _).mono ?_); rintro e w5 ⟨rfl, hb5⟩; have S5 := Lib.hid (S4.out.down hb5); clear hb5; (rw [HT.out]); have P5 := S5.out.blk
  (try dsimp only)
  (try simp only [Act.put, nA, nB, nC])
  clear hHeld
  refine hK.out _ _ ?_ (fun hHeld => ?_)
  ·exact S5.out.blk
  clear hK K
  (try simp only [Act.put, nA, nB, nC])
  refine wpAnyM_one 6 rfl (by kernel_rfl) (fun K hK => ?_)
  go_simp; rw [if_pos (arrv_size _ _), run_storeCells_row _ P5]; go_simp
  refine hK.out _ _ (.inl (by kernel_rfl)) (fun _ => ?_)
  clear hK K
  (try simp only [Act.put, nA, nB, nC])
  refine wpAnyM_done (by kernel_rfl) ?_ _
  have S6 := S5.out.row T
  generalize w5.setRow w.heap.size (arrv 24 T) = W6 at *
  have S6' := Lib.hid S6
  have P6 := S6.blk
  have CL := Lib.hid (clamp24_any c _ T W6 (S6.upd.cellc HC.out) ((S6.upd.frozen hcb).trans HF.out))
  clear S6 S2 S3 S4 S5 P2 P5
  go_wp2_with (first | (refine wpList_load_row rfl 23 _ rfl (w.heap.size) rfl 23 _ (0, 0) _ (P6) Tryz.underlying23 rfl (ist.trans (by rw [arrv_size])) ?_) | (go_at_call 42; (refine CL.out.mono ?_); rintro e w7 ⟨rfl, hu7⟩; have S7 := Lib.hid (S6'.out.upd' hcb hu7); have R7 := S7.out.res; clear hu7) | (refine wpList_store_row rfl 23 _ _ rfl (w.heap.size + 1) _ rfl rfl 23 _ (R7) (ist.trans (by rw [arrv_size])) (by rw [arrv_size, arrv_size]) (oneCell_arrv _ _) ?_))
  refine bodyPost_ret (results_cell_row Tryz.results20 _ _ (w.heap.size + 1) 23 (arrv 24 (clmF T)) (0, 0) _ rfl (setRow_heap _ _ _ _ _ _ R7) Tryz.underlying23 rfl (ist.trans (by rw [arrv_size]))) rfl ⟨by rw [E.out.1], ?_⟩
  rw [E.out.2]
  exact S7.out.upd.then' (below_row (Below.refl _ _) (by omega) _)
end Go.Proofs.YtgfklheepkgedaaGreat
/- Contracts of package state (6): Part, With. -/
namespace Go.Proofs.YtgfklheepkgedaaGreat
open Go.RowKit
set_option maxRecDepth 100000
/-- Numbers put in from number a on: the first n of L. -/
def withF (S : Nat → Int) (a : Int) (n : Nat) (L : Nat → Int) : Nat → Int := fun i => if a ≤ i ∧ i < a + n then L ((i : Int) - a).toNat else S i
theorem iv3 : (Tryz.prog.info? 28).map (·.size) = some 3 := by kernel_rfl
theorem zv3 : (#[.int .i64 0, .int .i64 0, .int .i64 0] : Array Value) = arrv 3 (fun _ => 0) := by kernel_rfl
structure WhR (S g : Nat → Int) (w wr : World) : Prop where
 below : Below w.heap.size w wr
 sB : Blk wr w.heap.size 23 24 g
 rB : Blk wr (w.heap.size + 1) 23 24 (fun _ => 0)
set_option maxHeartbeats 2000000 in
theorem swith_any (S : Nat → Int) (a : Int) (p : Option Addr) (n cp : Nat) (L : Nat → Int) (w : World) (a0 : -1000000 ≤ a) (a1 : a ≤ 1000000) (hn : n ≤ 1000) (hL : Slc w p n L) :
  Calls Tryz.prog 25 #[.agg (arrv 24 S), .int .i64 a, .slice p n cp] w fun e w' => e = .returned (.agg (arrv 24 (withF S a n L))) ∧ Below w.heap.size w w' := by
 have HL := Lib.hid hL
 clear hL
 go_enter Tryz.func25, Tryz.ntmps25
 go_upto_region 1 with fail
 have R0 : Hid (WhR S (withF S a 0 L) w ((w.alloc (.cells (arrv 24 S) 23)).alloc (.cells #[.int .i64 0, .int .i64 0, .int .i64 0, .int .i64 0, .int .i64 0, .int .i64 0, .int .i64 0, .int .i64 0, .int .i64 0, .int .i64 0, .int .i64 0, .int .i64 0, .int .i64 0, .int .i64 0, .int .i64 0, .int .i64 0, .int .i64 0, .int .i64 0, .int .i64 0, .int .i64 0, .int .i64 0, .int .i64 0, .int .i64 0, .int .i64 0] 23))) := Lib.hid
  ⟨by (repeat (first | with_reducible exact Below.refl _ _ | with_reducible apply Below.drew | (with_reducible refine below_drewN ?_ _) | (with_reducible refine Below.alloc ?_ (by (try simp) <;> omega) _) | (with_reducible refine Below.setCell ?_ (by (try simp) <;> omega) _))), ((Blk.new w _ _ _).alloc _).congr fun i hi => by unfold withF; rw [if_neg (by omega)], by rw [zvec24]; exact Blk.new1 w _ _ _ _⟩
 generalize (w.alloc (.cells (arrv 24 S) 23)).alloc (.cells #[.int .i64 0, .int .i64 0, .int .i64 0, .int .i64 0, .int .i64 0, .int .i64 0, .int .i64 0, .int .i64 0, .int .i64 0, .int .i64 0, .int .i64 0, .int .i64 0, .int .i64 0, .int .i64 0, .int .i64 0, .int .i64 0, .int .i64 0, .int .i64 0, .int .i64 0, .int .i64 0, .int .i64 0, .int .i64 0, .int .i64 0, .int .i64 0] 23) = W0 at *
 go_wp2_with fail
 go_loopw [12] (fun i wr => ∃ k : Nat, k ≤ n ∧ i = .int .i64 k ∧ Hid (WhR S (withF S a k L) w wr)) (fun i _ => n - (intOf i).toNat)
 case atStart => exact ⟨0, by omega, rfl, R0.out⟩
 case round =>
  obtain ⟨k, hk, rfl, R⟩ := hrel
  by_cases hlt : k < n
  ·obtain ⟨pb, po, rfl, hcell⟩ := HL.out k hlt
   have k0 : (0 : Int) ≤ (k : Int) := Int.natCast_nonneg _
   have k1 : (k : Int) < 1000 := by omega
   have hl0 := (R.out.below.cell (World.block_lt_of_cell? _ _ hcell)).trans hcell
   by_cases h1 : 0 ≤ a + (k : Int)
   ·by_cases h2 : a + (k : Int) < 24
    ·have e1 : decide (0 ≤ a + (k : Int)) = true := by simpa using h1
     have e2 : decide (a + (k : Int) < 24) = true := by simpa using h2
     have s0 := R.out.sB.cell (i := (a + (k : Int)).toNat) (by omega)
     have s1 := R.out.sB.free (a + (k : Int)).toNat
     clear hcell
     go_wp2_with fail
     go_roundw
     case rel =>
      refine ⟨k + 1, by omega, by go_num, R.out.below.setCell (by simp) _, (R.out.sB.set _ _).congr fun i hi => ?_, R.out.rB.other (by simp) _⟩
      simp only [Go.Proofs.YtgfklheepkgedaaGreat.upd, withF]
      by_cases h : i = (a + (k : Int)).toNat
      ·rw [if_pos h, if_pos (by omega)]; congr 1; omega
      ·rw [if_neg h]; split <;> split <;> first | rfl | omega
     case measure => simp [intOf]; omega
    ·have e1 : decide (0 ≤ a + (k : Int)) = true := by simpa using h1
     have e2 : decide (a + (k : Int) < 24) = false := by simpa using h2
     clear hcell
     go_wp2_with fail
     go_roundw
     case rel =>
      refine ⟨k + 1, by omega, by go_num, R.out.below, R.out.sB.congr fun i hi => ?_, R.out.rB⟩
      simp only [withF]
      split <;> split <;> first | rfl | omega
     case measure => simp [intOf]; omega
   ·have e1 : decide (0 ≤ a + (k : Int)) = false := by simpa using h1
    clear hcell
    go_wp2_with fail
    go_roundw
    case rel =>
     refine ⟨k + 1, by omega, by go_num, R.out.below, R.out.sB.congr fun i hi => ?_, R.out.rB⟩
     simp only [withF]
     split <;> split <;> first | rfl | omega
    case measure => simp [intOf]; omega
  ·have hkn : k = n := by omega
   subst hkn
   have V := R.out.sB
   have X := R.out.rB
   have B := Lib.hid R.out.below
   clear R hk hlt R0
   go_wp2_with (first | (refine wpList_load_row rfl 23 _ rfl (w.heap.size) rfl 23 _ (0, 0) _ (V) Tryz.underlying23 rfl (ist.trans (by rw [arrv_size])) ?_) | (refine wpList_store_row rfl 23 _ _ rfl (w.heap.size + 1) _ rfl rfl 23 _ (X) (ist.trans (by rw [arrv_size])) (by rw [arrv_size, arrv_size]) (oneCell_arrv _ _) ?_))
   refine bodyPost_ret (results_cell_row Tryz.results25 _ _ (w.heap.size + 1) 23 (arrv 24 (withF S a k L)) (0, 0) _ rfl (setRow_heap _ _ _ _ _ _ X) Tryz.underlying23 rfl (ist.trans (by rw [arrv_size]))) rfl ⟨rfl, below_row B.out (by omega) _⟩
end Go.Proofs.YtgfklheepkgedaaGreat
/- A region that draws its order: behind its last call another fact about the world may be taken up. -/
namespace Go.Proofs.YtgfklheepkgedaaGreat
open Go
theorem getD_keeps {listed : Array Bool} {i L : Nat} (h : listed.getD L false = true) : (listed.setIfInBounds i true).getD L false = true := by
 by_cases hi : i = L
 ·subst hi
  rcases Nat.lt_or_ge i listed.size with h' | h'
  ·simp [h']
  ·simp [Array.getElem?_eq_none h'] at h
 ·rw [getD_set_ne' false hi]; exact h
theorem wpAnyM_of_any {P : Program} {md : Region.Mode} {ops : Array Oper} {Q : Exit → Act → World → Prop} {S : World → Prop} {L : Nat} : ∀ (fuel : Nat) (listed : Array Bool) (a : Act) (w : World), listed.getD L false = true → wpAny P md ops Q fuel listed a w → wpAnyM P md ops Q S L fuel listed a w
 | 0, _, _, _, _, h => h
 | fuel + 1, _, _, _, hL, h => ⟨h.1, fun i hi => wpOp_mono (fun a' w' h' => ⟨.inl (getD_keeps hL), wpAnyM_of_any fuel _ a' w' (getD_keeps hL) h'⟩) (h.2 i hi)⟩
theorem wpAnyM_switch {P : Program} {md : Region.Mode} {ops : Array Oper} {Q : Exit → Act → World → Prop} {S : World → Prop} {L : Nat} (S' : World → Prop) (L' : Nat) {fuel : Nat} {listed : Array Bool} {a : Act} {w : World}
  (hL : listed.getD L false = true) (hS : S' w) (h : S' w → wpAnyM P md ops Q S' L' fuel listed a w) : wpAnyM P md ops Q S L fuel listed a w :=
 wpAnyM_of_any fuel listed a w hL (wpAny_of_M fuel listed a w (h hS))
/-- Take number i first: x waits for it, and L for x. -/
theorem wpAnyM_first2 {P : Program} {md : Region.Mode} {ops : Array Oper} {Q : Exit → Act → World → Prop} {S : World → Prop} {L : Nat} {i x : Nat} {oi : Oper} {v : Value} (hi : ops[i]? = some oi) (hsel : ∀ (j : Nat) (o : Oper) cs b, ops[j]? = some o → o.op ≠ .select cs b)
  (hQ : ∀ c a w, Q (.panic c) (a.put oi.dst v) w → Q (.panic c) a w) (hiL : i ≠ L) (hiX : i ≠ x)
  (hX : Region.waitsFor md ops x i = true) (hL : Region.waitsFor md ops L x = true) :
  ∀ (fuel : Nat) (listed : Array Bool) (a : Act) (w : World), listed.getD L false = false → listed.getD x true = false →
   (∀ j oj, ops[j]? = some oj → j ≠ i → listed.getD j true = false → (∀ e ∈ oj.after, Region.binds md e = true → e.on ≠ i) → oi.apart ops oj = true) →
   i ∈ Region.ready md ops listed → YieldsIf P ops S oi v a → S w →
   wpAnyM P md ops Q S L fuel (listed.setIfInBounds i true) (a.put oi.dst v) w → wpAnyM P md ops Q S L (fuel + 1) listed a w := by
 intro fuel
 induction fuel with
 | zero =>
  intro listed a w _ _ _ hr hy hGw H
  refine ⟨fun h => (by rw [h] at hr; cases hr), fun j hj => ?_⟩
  by_cases hji : j = i
  ·subst hji; exact hy.wpOp hi hGw ⟨.inr hGw, H⟩
  ·have := ready_mono hj hji
   rw [H.1] at this
   cases this
 | succ fuel ih =>
  intro listed a w hLw hXw hfree hr hy hGw H
  refine ⟨fun h => (by rw [h] at hr; cases hr), fun j hj => ?_⟩
  by_cases hji : j = i
  ·subst hji; exact hy.wpOp hi hGw ⟨.inr hGw, H⟩
  ·have h1 := H.2 j (ready_mono hj hji)
   obtain ⟨hjun, oj, hoj, hall⟩ := mem_ready.1 hj
   have hiun := (mem_ready.1 hr).1
   have hnot : ∀ e ∈ oj.after, Region.binds md e = true → e.on ≠ i := fun e he hb heq => by
    have h2 := hall e he hb
    rw [heq] at h2
    exact getD_of_ready hiun h2
   have hjX : j ≠ x := fun e => by
    subst e
    obtain ⟨oX, hoX, e, he, hb, hon⟩ := Region.waitsFor_spec hX
    have : oX = oj := Option.some.inj (hoX.symm.trans hoj)
    subst this
    exact hnot e he hb hon
   have hjL : j ≠ L := fun e => by
    subst e
    obtain ⟨oL, hoL, e, he, hb, hon⟩ := Region.waitsFor_spec hL
    have : oL = oj := Option.some.inj (hoL.symm.trans hoj)
    subst this
    have h2 := hall e he hb
    rw [hon] at h2
    exact getD_of_ready hXw h2
   have h2 := wpOp_putIf hoj (hfree j oj hoj hji hjun hnot) (fun cs b => hsel i oi cs b hi) (fun cs b => hsel j oj cs b hoj) hQ hy h1
   have hfree' : ∀ k ok, ops[k]? = some ok → k ≠ i → (listed.setIfInBounds j true).getD k true = false →
     (∀ e ∈ ok.after, Region.binds md e = true → e.on ≠ i) → oi.apart ops ok = true := fun k ok hk hki hun hno => by
    refine hfree k ok hk hki ?_ hno
    by_cases hjk : j = k
    ·subst hjk; exact hjun
    ·rw [getD_set_ne true hjk] at hun; exact hun
   refine wpOp_mono (fun a' w' h3 => ?_) h2
   have hL' : (listed.setIfInBounds j true).getD L false = false := by rw [getD_set_ne' _ hjL]; exact hLw
   have hX' : (listed.setIfInBounds j true).getD x true = false := by rw [getD_set_ne' _ hjX]; exact hXw
   have hS' : S w' := by
    refine h3.2.1.resolve_left fun h => ?_
    rw [Array.setIfInBounds_comm _ _ (Ne.symm hji), getD_set_ne' _ hiL, hL'] at h
    cases h
   refine ⟨.inr hS', ih (listed.setIfInBounds j true) a' w' hL' hX' hfree' (ready_mono hr (Ne.symm hji)) h3.1 hS' ?_⟩
   rw [Array.setIfInBounds_comm _ _ hji]
   exact h3.2.2
theorem wpAnyM_take2 (x : Nat) (i : Nat) {P : Program} {md : Region.Mode} {ops : Array Oper} {Q : Exit → Act → World → Prop} {S : World → Prop} {L : Nat} {oi : Oper} {v : Value} {fuel : Nat} {listed : Array Bool} {a : Act} {w : World} (hi' : ops.toList[i]? = some oi)
  (hk : (Region.noSelect ops && (Region.free md ops listed i && ((Region.ready md ops listed).contains i && (Region.waitsFor md ops x i && (Region.waitsFor md ops L x && (!listed.getD L false && (!listed.getD x true && (!(i == L) && !(i == x))))))))) = true)
  (hQ : ∀ c a w, Q (.panic c) (a.put oi.dst v) w → Q (.panic c) a w) (hy : YieldsIf P ops S oi v a) (hS : S w)
  (h : wpAnyM P md ops Q S L fuel (listed.setIfInBounds i true) (a.put oi.dst v) w) : wpAnyM P md ops Q S L (fuel + 1) listed a w := by
 have hi : ops[i]? = some oi := by rwa [Array.getElem?_toList] at hi'
 simp only [Bool.and_eq_true, Bool.not_eq_true'] at hk
 obtain ⟨k1, k2, k3, k4, k5, k6, k7, k8, k9⟩ := hk
 exact wpAnyM_first2 hi (Region.noSelect_spec k1) hQ (by simpa using k8) (by simpa using k9) k4 k5 fuel listed a w k6 k7 (Region.free_spec hi k2) (by simpa using k3) hy hS h
/-- Take number i first: those of X wait for it or for one of X, and L is of X. -/
theorem wpAnyM_firstX {P : Program} {md : Region.Mode} {ops : Array Oper} {Q : Exit → Act → World → Prop} {S : World → Prop} {L : Nat} {i : Nat} (X : List Nat) {oi : Oper} {v : Value} (hi : ops[i]? = some oi) (hsel : ∀ (j : Nat) (o : Oper) cs b, ops[j]? = some o → o.op ≠ .select cs b)
  (hQ : ∀ c a w, Q (.panic c) (a.put oi.dst v) w → Q (.panic c) a w) (hiX : i ∉ X) (hLX : L ∈ X)
  (hX : ∀ x, x ∈ X → Region.waitsFor md ops x i = true ∨ ∃ z, z ∈ X ∧ Region.waitsFor md ops x z = true) :
  ∀ (fuel : Nat) (listed : Array Bool) (a : Act) (w : World), (∀ x, x ∈ X → listed.getD x true = false) →
   (∀ j oj, ops[j]? = some oj → j ≠ i → listed.getD j true = false → (∀ e ∈ oj.after, Region.binds md e = true → e.on ≠ i) → oi.apart ops oj = true) →
   i ∈ Region.ready md ops listed → YieldsIf P ops S oi v a → S w →
   wpAnyM P md ops Q S L fuel (listed.setIfInBounds i true) (a.put oi.dst v) w → wpAnyM P md ops Q S L (fuel + 1) listed a w := by
 have hiL : i ≠ L := fun e => hiX (e ▸ hLX)
 intro fuel
 induction fuel with
 | zero =>
  intro listed a w _ _ hr hy hGw H
  refine ⟨fun h => (by rw [h] at hr; cases hr), fun j hj => ?_⟩
  by_cases hji : j = i
  ·subst hji; exact hy.wpOp hi hGw ⟨.inr hGw, H⟩
  ·have := ready_mono hj hji
   rw [H.1] at this
   cases this
 | succ fuel ih =>
  intro listed a w hXw hfree hr hy hGw H
  refine ⟨fun h => (by rw [h] at hr; cases hr), fun j hj => ?_⟩
  by_cases hji : j = i
  ·subst hji; exact hy.wpOp hi hGw ⟨.inr hGw, H⟩
  ·have h1 := H.2 j (ready_mono hj hji)
   obtain ⟨hjun, oj, hoj, hall⟩ := mem_ready.1 hj
   have hiun := (mem_ready.1 hr).1
   have hnot : ∀ e ∈ oj.after, Region.binds md e = true → e.on ≠ i := fun e he hb heq => by
    have h2 := hall e he hb
    rw [heq] at h2
    exact getD_of_ready hiun h2
   have hjX : j ∉ X := fun hjx => by
    rcases hX j hjx with h | ⟨z, hz, h⟩
    ·obtain ⟨oX, hoX, e, he, hb, hon⟩ := Region.waitsFor_spec h
     have : oX = oj := Option.some.inj (hoX.symm.trans hoj)
     subst this
     exact hnot e he hb hon
    ·obtain ⟨oX, hoX, e, he, hb, hon⟩ := Region.waitsFor_spec h
     have : oX = oj := Option.some.inj (hoX.symm.trans hoj)
     subst this
     have h2 := hall e he hb
     rw [hon] at h2
     exact getD_of_ready (hXw z hz) h2
   have hjL : j ≠ L := fun e => hjX (e ▸ hLX)
   have h2 := wpOp_putIf hoj (hfree j oj hoj hji hjun hnot) (fun cs b => hsel i oi cs b hi) (fun cs b => hsel j oj cs b hoj) hQ hy h1
   have hfree' : ∀ k ok, ops[k]? = some ok → k ≠ i → (listed.setIfInBounds j true).getD k true = false →
     (∀ e ∈ ok.after, Region.binds md e = true → e.on ≠ i) → oi.apart ops ok = true := fun k ok hk hki hun hno => by
    refine hfree k ok hk hki ?_ hno
    by_cases hjk : j = k
    ·subst hjk; exact hjun
    ·rw [getD_set_ne true hjk] at hun; exact hun
   refine wpOp_mono (fun a' w' h3 => ?_) h2
   have hX' : ∀ x, x ∈ X → (listed.setIfInBounds j true).getD x true = false := fun x hx => by
    have hne : j ≠ x := fun e => by rw [e] at hjX; exact hjX hx
    rw [getD_set_ne' true hne]; exact hXw x hx
   have hS' : S w' := by
    refine h3.2.1.resolve_left fun h => ?_
    rw [Array.setIfInBounds_comm _ _ (Ne.symm hji), getD_set_ne' _ hiL] at h
    exact getD_of_ready (hX' L hLX) h
   refine ⟨.inr hS', ih (listed.setIfInBounds j true) a' w' hX' hfree' (ready_mono hr (Ne.symm hji)) h3.1 hS' ?_⟩
   rw [Array.setIfInBounds_comm _ _ hji]
   exact h3.2.2
theorem wpAnyM_takeX (X : List Nat) (i : Nat) {P : Program} {md : Region.Mode} {ops : Array Oper} {Q : Exit → Act → World → Prop} {S : World → Prop} {L : Nat} {oi : Oper} {v : Value} {fuel : Nat} {listed : Array Bool} {a : Act} {w : World} (hi' : ops.toList[i]? = some oi)
  (hk : (Region.noSelect ops && (Region.free md ops listed i && ((Region.ready md ops listed).contains i && (!X.contains i && (X.contains L && (X.all (fun x => (Region.waitsFor md ops x i || X.any fun z => Region.waitsFor md ops x z)) && X.all fun x => !listed.getD x true)))))) = true)
  (hQ : ∀ c a w, Q (.panic c) (a.put oi.dst v) w → Q (.panic c) a w) (hy : YieldsIf P ops S oi v a) (hS : S w)
  (h : wpAnyM P md ops Q S L fuel (listed.setIfInBounds i true) (a.put oi.dst v) w) : wpAnyM P md ops Q S L (fuel + 1) listed a w := by
 have hi : ops[i]? = some oi := by rwa [Array.getElem?_toList] at hi'
 simp only [Bool.and_eq_true, Bool.not_eq_true'] at hk
 obtain ⟨k1, k2, k3, k4, k5, k6, k7⟩ := hk
 refine wpAnyM_firstX X hi (Region.noSelect_spec k1) hQ (by simpa using k4) (by simpa using k5) (fun x hx => ?_) fuel listed a w (fun x hx => ?_) (Region.free_spec hi k2) (by simpa using k3) hy hS h
 ·have := (List.all_eq_true.1 k6) x hx
  rw [Bool.or_eq_true] at this
  refine this.imp id fun h => ?_
  obtain ⟨z, hz, hz2⟩ := List.any_eq_true.1 h
  exact ⟨z, hz, hz2⟩
 ·have := (List.all_eq_true.1 k7) x hx
  simpa using this
open Go in
/-- wpAnyM_takeX, with the plain proofs left to auto parameters. -/
theorem tx (X : List Nat) (i : Nat) {P : Program} {md : Region.Mode} {ops : Array Oper} {Q : Exit → Act → World → Prop} {S : World → Prop} {L : Nat} {oi : Oper} {v : Value} {fuel : Nat} {listed : Array Bool} {a : Act} {w : World}
  (hy : ∀ w' : World, S w' → (execOp a.eval oi).run P w' = .ok (.value v) w')
  (h : wpAnyM P md ops Q S L fuel (listed.setIfInBounds i true) (a.put oi.dst v) w) (hi' : ops.toList[i]? = some oi := by rfl)
  (hk : (Region.noSelect ops && (Region.free md ops listed i && ((Region.ready md ops listed).contains i && (!X.contains i && (X.contains L && (X.all (fun x => (Region.waitsFor md ops x i || X.any fun z => Region.waitsFor md ops x z)) && X.all fun x => !listed.getD x true)))))) = true := by kernel_rfl)
  (hQ : ∀ c a w, Q (.panic c) (a.put oi.dst v) w → Q (.panic c) a w := by exact fun _ _ _ h => h)
  (hg : Region.wanted oi (yielded ops a.tmps) = true := by rfl) (hS : S w := by assumption) : wpAnyM P md ops Q S L (fuel + 1) listed a w :=
 wpAnyM_takeX X i hi' hk hQ (Or.inl ⟨hg, hy⟩) hS h
end Go.Proofs.YtgfklheepkgedaaGreat
/- Contracts of package vec: Sat, Sub, Scale, Norm. -/
namespace Go.Proofs.YtgfklheepkgedaaGreat
open Go.RowKit
set_option maxRecDepth 100000
def vc3 (a b c : Int) : Nat → Int := fun i => if i = 0 then a else if i = 1 then b else c
open Go in
theorem run_build_v3 {o : Oper} {ev : Operand → Value} {w : World} (x y z : Operand) (ho : o.op = .build 28 #[(0, x), (1, y), (2, z)]) {a b c : Int} (hx : ev x = .int .i64 a) (hy : ev y = .int .i64 b) (hw : ev z = .int .i64 c) :
  (execOp ev o).run Tryz.prog w = .ok (.value (.agg (arrv 3 (vc3 a b c)))) w := by
 unfold execOp
 simp only [ho, List.map_toArray, List.map_cons, List.map_nil, hx, hy, hw]
 kernel_rfl
theorem sat_upd (c : Addr) (h : Bool) (a : Int) (w : World) (hc : w.cell? c = some (.bool h)) (hf : w.frozen? c = false) :
  Calls Tryz.prog 81 #[.pointer (some c), .int .i64 a] w fun e w' => e = .returned (.int .i64 (satV a)) ∧ Upd c (h || satH a) w w' := by
 refine (sat_any c h a w hc hf).mono ?_
 rintro e w' ⟨rfl, rfl⟩
 exact ⟨rfl, Upd.set _ _ _⟩
end Go.Proofs.YtgfklheepkgedaaGreat
/- The product of quaternions, the matrix of one, as the program's numbers. No program. -/
namespace Go.Proofs.YtgfklheepkgedaaGreat
def q4 (a b c d : Int) : Nat → Int := fun i => if i = 0 then a else if i = 1 then b else if i = 2 then c else d
def qmR (B : Nat → Int) : Nat → Nat → Int
 | 0 => q4 (B 0) (-B 1) (-B 2) (-B 3)
 | 1 => q4 (B 1) (B 0) (B 3) (-B 2)
 | 2 => q4 (B 2) (-B 3) (B 0) (B 1)
 | _ => q4 (B 3) (B 2) (-B 1) (B 0)
def qmV (A B : Nat → Int) : Nat → Int := fun r => dotV 30 (satA A) (qmR (satA B) r) 4
def qmH (A B : Nat → Int) : Bool := orB (fun i => satH (A i)) 4 || orB (fun i => satH (B i)) 4 || orB (fun r => dotH 30 (satA A) (qmR (satA B) r) 4) 4
end Go.Proofs.YtgfklheepkgedaaGreat
/- Sines and cosines as the program's numbers. No program. -/
namespace Go.Proofs.YtgfklheepkgedaaGreat
def wrpV (a : Int) : Int := if 3373259426 < a.tmod 6746518852 then a.tmod 6746518852 - 6746518852 else if a.tmod 6746518852 ≤ -3373259426 then a.tmod 6746518852 + 6746518852 else a.tmod 6746518852
theorem tmod_bd (a : Int) : -6746518852 < a.tmod 6746518852 ∧ a.tmod 6746518852 < 6746518852 := by
 have := Int.tmod_lt_of_pos a (show (0 : Int) < 6746518852 by decide)
 have := Int.tmod_lt_of_pos (-a) (show (0 : Int) < 6746518852 by decide)
 rw [Int.neg_tmod] at this
 omega
theorem wrpV_bd (a : Int) : -3373259426 < wrpV a ∧ wrpV a ≤ 3373259426 := by
 have := tmod_bd a
 unfold wrpV
 split
 ·omega
 ·split <;> omega
/-- Folded into the quarters round nought. -/
def fldV (w : Int) : Int := if 1686629713 < w then 3373259426 - w else if w < -1686629713 then -3373259426 - w else w
theorem fldV_bd {w : Int} (h : -3373259426 < w) (h2 : w ≤ 3373259426) : -1686629713 ≤ fldV w ∧ fldV w ≤ 1686629713 := by
 unfold fldV
 split
 ·omega
 ·split <;> omega
def serV (z : Int) (L : Nat → Int) : Nat → Int | 0 => L 0 | k + 1 => addV (L (k + 1)) (mulV z (serV z L k) 30)
def serH (z : Int) (L : Nat → Int) : Nat → Bool | 0 => false | k + 1 => serH z L k || mulH z (serV z L k) 30 || addH (L (k + 1)) (mulV z (serV z L k) 30)
def sinL : Nat → Int | 0 => -27 | 1 => 2959 | 2 => -213044 | 3 => 8947849 | 4 => -178956971 | _ => 1073741824
def cosL : Nat → Int | 0 => 2 | 1 => -296 | 2 => 26631 | 3 => -1491308 | 4 => 44739243 | 5 => -536870912 | _ => 1073741824
/-- The sine of a small angle; the cosine of one; of an angle in the quarters round nought. -/
def sn1V (w : Int) : Int := mulV w (serV (mulV w w 30) sinL 5) 30
def sn1H (w : Int) : Bool := mulH w w 30 || serH (mulV w w 30) sinL 5 || mulH w (serV (mulV w w 30) sinL 5) 30
def cs1V (x : Int) : Int := serV (mulV x x 30) cosL 6
def cs1H (x : Int) : Bool := mulH x x 30 || serH (mulV x x 30) cosL 6
def qrtV (w : Int) : Int := if absV w ≤ 843314857 then sn1V w else if w < 0 then -cs1V (1686629713 - absV w) else cs1V (1686629713 - absV w)
def qrtH (w : Int) : Bool := if absV w ≤ 843314857 then sn1H w else cs1H (1686629713 - absV w)
def oneC (s : Int) : Int := min (max s (-1073741824)) 1073741824
def sinV (a : Int) : Int := oneC (qrtV (fldV (wrpV (satV a))))
def sinH (a : Int) : Bool := satH a || qrtH (fldV (wrpV (satV a)))
def cosV (a : Int) : Int := sinV (1686629713 + wrpV a)
def cosH (a : Int) : Bool := sinH (1686629713 + wrpV a)
theorem addV_bd (a b : Int) : -1152921504606846976 ≤ addV a b ∧ addV a b ≤ 1152921504606846976 := satV_bd _
theorem cs1V_bd (x : Int) : -1152921504606846976 ≤ cs1V x ∧ cs1V x ≤ 1152921504606846976 := addV_bd _ _
end Go.Proofs.YtgfklheepkgedaaGreat
/- Contracts of package trig: Wrap, m, series, Sin, Cos. -/
namespace Go.Proofs.YtgfklheepkgedaaGreat
open Go.RowKit
set_option maxRecDepth 100000
theorem wrap_any (a : Int) (w : World) : Calls Tryz.prog 44 #[.int .i64 a] w fun e w' => e = .returned (.int .i64 (wrpV a)) ∧ w = w' := by
 have b := tmod_bd a
 have e0 : IntKind.i64.wrap (a.tmod 6746518852) = a.tmod 6746518852 := IntWalk.i64_in _ (by omega)
 have EV := Lib.hid (show wrpV a = if 3373259426 < a.tmod 6746518852 then a.tmod 6746518852 - 6746518852 else if a.tmod 6746518852 ≤ -3373259426 then a.tmod 6746518852 + 6746518852 else a.tmod 6746518852 from rfl)
 obtain ⟨V, hV⟩ : ∃ x, wrpV a = x := ⟨_, rfl⟩
 rw [hV] at EV ⊢
 clear hV
 obtain ⟨r, hr⟩ : ∃ x, a.tmod 6746518852 = x := ⟨_, rfl⟩
 rw [hr] at b e0 EV
 by_cases h1 : 3373259426 < r
 ·have d1 : decide (3373259426 < r) = true := by simpa using h1
  have EE := Lib.hid (show V = r - 6746518852 by rw [EV.out, if_pos h1])
  have e1 : IntKind.i64.wrap (r - 6746518852) = r - 6746518852 := IntWalk.i64_in _ (by omega)
  clear EV h1 b
  go_enter Tryz.func44, Tryz.ntmps44
  go_upto_region 2 with fail
  (try simp only [hr, e0])
  go_wp2_with fail
  go_ret
  exact ⟨by rw [EE.out]; rfl, rfl⟩
 ·have d1 : decide (3373259426 < r) = false := by simpa using h1
  by_cases h2 : r ≤ -3373259426
  ·have d2 : decide (r ≤ -3373259426) = true := by simpa using h2
   have EE := Lib.hid (show V = r + 6746518852 by rw [EV.out, if_neg h1, if_pos h2])
   have e1 : IntKind.i64.wrap (r + 6746518852) = r + 6746518852 := IntWalk.i64_in _ (by omega)
   clear EV h1 h2 b
   go_enter Tryz.func44, Tryz.ntmps44
   go_upto_region 2 with fail
   (try simp only [hr, e0])
   go_wp2_with fail
   go_ret
   exact ⟨by rw [EE.out]; rfl, rfl⟩
  ·have d2 : decide (r ≤ -3373259426) = false := by simpa using h2
   have EE := Lib.hid (show V = r by rw [EV.out, if_neg h1, if_neg h2])
   clear EV h1 h2 b
   go_enter Tryz.func44, Tryz.ntmps44
   go_upto_region 2 with fail
   (try simp only [hr, e0])
   go_wp2_with fail
   go_ret
   exact ⟨by rw [EE.out]; rfl, rfl⟩
theorem tm_any (c : Addr) (h : Bool) (a b : Int) (w : World) (hc : w.cell? c = some (.bool h)) (hf : w.frozen? c = false) :
  Calls Tryz.prog 83 #[.pointer (some c), .int .i64 a, .int .i64 b] w fun e w' => e = .returned (.int .i64 (mulV a b 30)) ∧ Upd c (h || mulH a b 30) w w' := by
 have MC := Lib.hid (fmul_any c h a b 30 w hc hf)
 clear hc hf
 go_enter Tryz.func83, Tryz.ntmps83
 go_wp2_with (go_at_call 43; (refine MC.out.mono ?_); rintro e w1 ⟨rfl, hu1⟩)
 go_ret
 exact ⟨rfl, hu1⟩
/-- A slice of numbers, above which the call may build. -/
def Lst (w : World) (pa oa n : Nat) (L : Nat → Int) : Prop := ∀ i, i < n → w.cell? ⟨pa, oa + i, none⟩ = some (.int .i64 (L i))
theorem Lst.upd {w w' : World} {pa oa n : Nat} {L : Nat → Int} {c : Addr} {h h' : Bool} (s : Lst w pa oa n L) (hc : w.cell? c = some (.bool h)) (u : Upd c h' w w') : Lst w' pa oa n L := fun i hi => by
 have k := s i hi
 rw [u.cell (World.block_lt_of_cell? w _ k) (fun e => by rw [e] at hc; rw [hc] at k; cases k), k]
theorem Lst.below {w w' : World} {pa oa n : Nat} {L : Nat → Int} (s : Lst w pa oa n L) (u : Below w.heap.size w w') : Lst w' pa oa n L := fun i hi => by
 have k := s i hi
 exact (u.cell (World.block_lt_of_cell? w _ k)).trans k
structure SeR (c : Addr) (h : Bool) (pa oa n : Nat) (L : Nat → Int) (w wr : World) : Prop where
 upd : Upd c h w wr
 lst : Lst wr pa oa n L
 cell : wr.cell? c = some (.bool h)
 free : wr.frozen? c = false
theorem SeR.upd' {c : Addr} {h h' : Bool} {pa oa n : Nat} {L : Nat → Int} {w wr w' : World} (s : SeR c h pa oa n L w wr) (u : Upd c h' wr w') : SeR c h' pa oa n L w w' :=
 ⟨s.upd.trans u, s.lst.upd s.cell u, u.cellc s.cell, (u.frozen (World.block_lt_of_cell? _ _ s.cell)).trans s.free⟩
theorem SeR.down {c : Addr} {h : Bool} {pa oa n : Nat} {L : Nat → Int} {w wr w' : World} (s : SeR c h pa oa n L w wr) (u : Below wr.heap.size wr w') : SeR c h pa oa n L w w' :=
 ⟨s.upd.then u, s.lst.below u, (u.cell (World.block_lt_of_cell? _ _ s.cell)).trans s.cell, (u.frozen (World.block_lt_of_cell? _ _ s.cell)).trans s.free⟩
set_option maxHeartbeats 4000000 in
theorem series_any (c : Addr) (h : Bool) (z : Int) (L : Nat → Int) (pa oa ca n : Nat) (w : World) (hc : w.cell? c = some (.bool h)) (hf : w.frozen? c = false) (hn0 : 1 ≤ n) (hn : n ≤ 40) (hcap : n + 1 ≤ ca)
  (hL : Lst w pa oa (n + 1) L) :
  Calls Tryz.prog 84 #[.pointer (some c), .int .i64 z, .slice (some ⟨pa, oa, none⟩) (n + 1 : Nat) ca] w fun e w' => e = .returned (.int .i64 (serV z L n)) ∧ Upd c (h || serH z L n) w w' := by
 have hcb := World.block_lt_of_cell? w c hc
 have R0 := Lib.hid (show SeR c h pa oa (n + 1) L w w from ⟨Upd.refl hc, hL, hc, hf⟩)
 have HF := Lib.hid hf
 have L0 := hL 0 (by omega)
 rw [Nat.add_zero] at L0
 clear hc hf hL
 go_enter Tryz.func84, Tryz.ntmps84
 go_upto_region 2 with fail
 have hcap2 : (1 : Int) ≤ (ca : Int) := by omega
 have hcap3 : ¬ ca = 1 := by omega
 have hn1 : (1 : Int) ≤ ((n + 1 : Nat) : Int) := by omega
 go_wp2_with fail
 go_loopw [7, 16] (fun s i wr => ∃ k : Nat, k ≤ n ∧ s = .int .i64 (serV z L k) ∧ i = .int .i64 k ∧ Hid (SeR c (h || serH z L k) pa oa (n + 1) L w wr)) (fun _ i _ => n - (intOf i).toNat)
 case atStart => exact ⟨0, by omega, rfl, rfl, by rw [show (h || serH z L 0) = h from by simp [serH]]; exact R0⟩
 case round =>
  obtain ⟨k, hk, rfl, rfl, R⟩ := hrel
  clear R0 L0
  by_cases hlt : k < n
  ·have g1 : decide (k < n) = true := by simpa using hlt
   have k0 : (0 : Int) ≤ (k : Int) := Int.natCast_nonneg _
   have k1 : (k : Int) < (n : Int) := by omega
   have Lk := R.out.lst (k + 1) (by omega)
   rw [show oa + (k + 1) = oa + 1 + k by omega] at Lk
   have ES := Lib.hid (And.intro (show serV z L (k + 1) = addV (L (k + 1)) (mulV z (serV z L k) 30) from rfl) (show (h || serH z L (k + 1)) = (h || serH z L k || mulH z (serV z L k) 30 || addH (L (k + 1)) (mulV z (serV z L k) 30)) by simp [serH, Bool.or_assoc]))
   obtain ⟨LV, hLV⟩ : ∃ x, L (k + 1) = x := ⟨_, rfl⟩
   obtain ⟨S, hS⟩ : ∃ x, serV z L k = x := ⟨_, rfl⟩
   obtain ⟨H, hH⟩ : ∃ x, (h || serH z L k) = x := ⟨_, rfl⟩
   rw [hLV] at Lk
   rw [hLV, hS, hH] at ES
   rw [hH] at R
   rw [hS]
   have TC := tm_any c H z S wr R.out.cell R.out.free
   obtain ⟨M, hM⟩ : ∃ x, mulV z S 30 = x := ⟨_, rfl⟩
   obtain ⟨H2, hH2⟩ : ∃ x, (H || mulH z S 30) = x := ⟨_, rfl⟩
   rw [hM, hH2] at TC
   rw [hM, hH2] at ES
   have TC := Lib.hid TC
   clear hLV hS hH hM hH2
   go_upto_region 5 with fail
   refine wp_region_lit ?_
   refine tv ?_
   (try simp only [Act.put, nA, nB, nC])
   refine tv ?_
   (try simp only [Act.put, nA, nB, nC])
   refine tv ?_
   (try simp only [Act.put, nA, nB, nC])
   refine tv ?_
   (try simp only [Act.put, nA, nB, nC])
   refine tv ?_
   (try simp only [Act.put, nA, nB, nC])
   refine wpList_step (fun K hK => ?_)
   go_simp
   (refine TC.out.mono ?_); rintro e w1 ⟨rfl, hu1⟩; have R1 := Lib.hid (R.out.upd' hu1); clear hu1 TC R Lk
   (try dsimp only)
   (try simp only [Act.put, nA, nB, nC])
   refine hK _ _ ?_
   clear hK K
   refine wpList_act (v := ?_) (w' := ?_) rfl ?_ ?_
   rotate_left 2
   ·(go_simp; (try (first | with_reducible rfl | (constructor <;> with_reducible rfl))))
   (try simp only [Act.put, nA, nB, nC])
   refine wpList_step (fun K hK => ?_)
   go_simp
   have R2 := Lib.hid (R1.out.down (Below.alloc (Below.refl _ _) (Nat.le_refl _) (.cells #[.int .i64 LV, .int .i64 M] 2))); (refine (fadd_any c H2 (two LV M) w1.heap.size 0 2 2 _ R2.out.cell R2.out.free (by decide) (by intro i hi; obtain rfl | rfl : i = 0 ∨ i = 1 := (by omega); simp [go_sem, two]; simp [go_sem, two])).mono ?_); (rw [(add2 LV M true).1, (add2 LV M _).2]); rintro e w2 ⟨rfl, hu2⟩; have R3 := Lib.hid (R2.out.upd' hu2); clear hu2 R2 R1
   (try dsimp only)
   (try simp only [Act.put, nA, nB, nC])
   refine hK _ _ ?_
   clear hK K
   refine tv ?_
   (try simp only [Act.put, nA, nB, nC])
   refine wpList_nil ?_
   go_wp2_with fail
   go_roundw
   case rel => exact ⟨k + 1, by omega, by rw [ES.out.1], by go_num, by rw [ES.out.2]; exact R3⟩
   case measure => simp [intOf]; omega
  ·have hkn : k = n := by omega
   subst hkn
   have g1 : decide (k < k) = false := by simp
   go_wp2_with fail
   go_ret
   exact ⟨rfl, R.out.upd⟩
end Go.Proofs.YtgfklheepkgedaaGreat
