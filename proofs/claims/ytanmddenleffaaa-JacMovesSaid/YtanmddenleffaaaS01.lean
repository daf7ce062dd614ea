/- Contracts and plain laws beyond the other parts, 1: they hold for all arguments. -/
import Derived.Test.YtanmddenleffaaaQ01
import Derived.Test.YtanmddenleffaaaQ02
import Derived.Test.YtanmddenleffaaaQ03
import Derived.Test.YtanmddenleffaaaQ04
import Derived.Test.YtanmddenleffaaaQ05
import Derived.Test.YtanmddenleffaaaQ06
import Derived.Test.YtanmddenleffaaaQ07
import Derived.Test.YtanmddenleffaaaQ08
import Derived.Test.YtanmddenleffaaaQ09
import Derived.Test.YtanmddenleffaaaQ10
import Derived.Test.YtanmddenleffaaaQ11
import Derived.Test.YtanmddenleffaaaQ12
import Derived.Test.YtanmddenleffaaaQ13
import Derived.Test.YtanmddenleffaaaQ14
import Derived.Test.YtanmddenleffaaaQ15
import Derived.Test.YtanmddenleffaaaQ16
import Derived.Test.YtanmddenleffaaaQ17
import Derived.Test.YtanmddenleffaaaQ18
import Derived.Test.YtanmddenleffaaaQ19
import Derived.Test.YtanmddenleffaaaQ20
namespace Go.Proofs.Ytanmddenleffaaa
def qmR (B : Nat → Int) : Nat → Nat → Int
  | 0 => q4 (B 0) (-B 1) (-B 2) (-B 3)
  | 1 => q4 (B 1) (B 0) (B 3) (-B 2)
  | 2 => q4 (B 2) (-B 3) (B 0) (B 1)
  | _ => q4 (B 3) (B 2) (-B 1) (B 0)
def qmV (A B : Nat → Int) : Nat → Int := fun r => dotV 30 (satA A) (qmR (satA B) r) 4
def qmH (A B : Nat → Int) : Bool := orB (fun i => satH (A i)) 4 || orB (fun i => satH (B i)) 4 || orB (fun r => dotH 30 (satA A) (qmR (satA B) r) 4) 4
def apV (M V : Nat → Int) : Nat → Int := fun i => dotV 30 (fun k => M (3 * i + k)) V 3
def apH (M V : Nat → Int) : Bool := orB (fun i => dotH 30 (fun k => M (3 * i + k)) V 3) 3
end Go.Proofs.Ytanmddenleffaaa
namespace Go.Proofs.Ytanmddenleffaaa
/-- Of numbers up to 2^59 Unit raises no flag. -/
theorem unit_calm (A : Nat → Int) (hA : ∀ i, i < 4 → -576460752303423488 ≤ A i ∧ A i ≤ 576460752303423488) : uniH A = false := by
  have hs : ∀ i, i < 4 → satH (A i) = false := fun i hi => satH_no (by have := hA i hi; omega) (by have := hA i hi; omega)
  have hv : ∀ i, i < 4 → satA A i = A i := fun i hi => satV_id (by have := hA i hi; omega) (by have := hA i hi; omega)
  unfold uniH
  simp only [orB, hs 0 (by decide), hs 1 (by decide), hs 2 (by decide), hs 3 (by decide), Bool.or_false, Bool.false_or]
  by_cases h : zer4 (satA A) = true
  · rw [if_pos h]
  · rw [if_neg h]
    obtain ⟨_, h4, h5⟩ := uni_both (satA A) (fun i _ => satV_bd _) (zer4_no h)
    rw [h4, h5]
    obtain ⟨R, hR⟩ : ∃ R : Int, ((rootV (dotS (satA A) (satA A) 4).toNat : Nat) : Int) = R := ⟨_, rfl⟩
    obtain ⟨a1, a2, a3, _⟩ := hyp_root (satA A) (fun i _ => satV_bd _) R hR
    rw [hR]
    rw [hv 0 (by decide), hv 1 (by decide), hv 2 (by decide), hv 3 (by decide)] at a2
    have w : ∀ i, i < 4 → A i * A i ≤ 576460752303423488 * 576460752303423488 := fun i hi => sq_le (by decide) (hA i hi).1 (hA i hi).2
    have w0 := w 0 (by decide)
    have w1 := w 1 (by decide)
    have w2 := w 2 (by decide)
    have w3 := w 3 (by decide)
    have : ¬ 1152921504606846976 < R := by
      intro hc
      have h2 : 1152921504606846977 * R ≤ R * R := Int.mul_le_mul_of_nonneg_right (by omega) a1
      omega
    simp; omega
end Go.Proofs.Ytanmddenleffaaa
namespace Go.Proofs.Ytanmddenleffaaa
open Go.RowKit
theorem if_pos_of {b : Bool} {p q : Prop} (h : b = true) (hp : p) : if b = true then p else q := by rw [if_pos h]; exact hp
end Go.Proofs.Ytanmddenleffaaa
namespace Go.Proofs.Ytanmddenleffaaa
open Go.RowKit
set_option maxRecDepth 100000
/-- Numbers put in from number a on: the first n of L. -/
def withF (S : Nat → Int) (a : Int) (n : Nat) (L : Nat → Int) : Nat → Int := fun i => if a ≤ i ∧ i < a + n then L ((i : Int) - a).toNat else S i
set_option maxHeartbeats 2000000 in
theorem swith_any (S : Nat → Int) (a : Int) (p : Option Addr) (n cp : Nat) (L : Nat → Int) (w : World) (a0 : -1000000 ≤ a) (a1 : a ≤ 1000000) (hn : n ≤ 1000) (hL : Slc w p n L) :
    Calls Try.prog 48 #[.agg (arrv 24 S), .int .i64 a, .slice p n cp] w fun e w' => e = .returned (.agg (arrv 24 (withF S a n L))) ∧ Below w.heap.size w w' := by
  have HL := Lib.hid hL
  clear hL
  go_enter Try.func48, Try.ntmps48
  go_upto_region 1 with fail
  have R0 : Hid (WhR S (withF S a 0 L) w ((w.alloc (.cells (arrv 24 S) 30)).alloc (.cells #[.int .i64 0, .int .i64 0, .int .i64 0, .int .i64 0, .int .i64 0, .int .i64 0, .int .i64 0, .int .i64 0, .int .i64 0, .int .i64 0, .int .i64 0, .int .i64 0, .int .i64 0, .int .i64 0, .int .i64 0, .int .i64 0, .int .i64 0, .int .i64 0, .int .i64 0, .int .i64 0, .int .i64 0, .int .i64 0, .int .i64 0, .int .i64 0] 30))) := Lib.hid
    ⟨by (repeat (first | with_reducible exact Below.refl _ _ | with_reducible apply Below.drew | (with_reducible refine below_drewN ?_ _) | (with_reducible refine Below.alloc ?_ (by (try simp) <;> omega) _) | (with_reducible refine Below.setCell ?_ (by (try simp) <;> omega) _))), ((Blk.new w _ _ _).alloc _).congr fun i hi => by unfold withF; rw [if_neg (by omega)], by rw [zvec24]; exact Blk.new1 w _ _ _ _⟩
  generalize (w.alloc (.cells (arrv 24 S) 30)).alloc (.cells #[.int .i64 0, .int .i64 0, .int .i64 0, .int .i64 0, .int .i64 0, .int .i64 0, .int .i64 0, .int .i64 0, .int .i64 0, .int .i64 0, .int .i64 0, .int .i64 0, .int .i64 0, .int .i64 0, .int .i64 0, .int .i64 0, .int .i64 0, .int .i64 0, .int .i64 0, .int .i64 0, .int .i64 0, .int .i64 0, .int .i64 0, .int .i64 0] 30) = W0 at *
  go_wp2_with fail
  go_loopw [12] (fun i wr => ∃ k : Nat, k ≤ n ∧ i = .int .i64 k ∧ Hid (WhR S (withF S a k L) w wr)) (fun i _ => n - (intOf i).toNat)
  case atStart => exact ⟨0, by omega, rfl, R0.out⟩
  case round =>
    obtain ⟨k, hk, rfl, R⟩ := hrel
    by_cases hlt : k < n
    · obtain ⟨pb, po, rfl, hcell⟩ := HL.out k hlt
      have k0 : (0 : Int) ≤ (k : Int) := Int.natCast_nonneg _
      have k1 : (k : Int) < 1000 := by omega
      have hl0 := (R.out.below.cell (World.block_lt_of_cell? _ _ hcell)).trans hcell
      by_cases h1 : 0 ≤ a + (k : Int)
      · by_cases h2 : a + (k : Int) < 24
        · have e1 : decide (0 ≤ a + (k : Int)) = true := by simpa using h1
          have e2 : decide (a + (k : Int) < 24) = true := by simpa using h2
          have s0 := R.out.sB.cell (i := (a + (k : Int)).toNat) (by omega)
          have s1 := R.out.sB.free (a + (k : Int)).toNat
          clear hcell
          go_wp2_with fail
          go_roundw
          case rel =>
            refine ⟨k + 1, by omega, by go_num, R.out.below.setCell (by simp) _, (R.out.sB.set _ _).congr fun i hi => ?_, R.out.rB.other (by simp) _⟩
            simp only [Go.Proofs.Ytanmddenleffaaa.upd, withF]
            by_cases h : i = (a + (k : Int)).toNat
            · rw [if_pos h, if_pos (by omega)]; congr 1; omega
            · rw [if_neg h]; split <;> split <;> first | rfl | omega
          case measure => simp [intOf]; omega
        · have e1 : decide (0 ≤ a + (k : Int)) = true := by simpa using h1
          have e2 : decide (a + (k : Int) < 24) = false := by simpa using h2
          clear hcell
          go_wp2_with fail
          go_roundw
          case rel =>
            refine ⟨k + 1, by omega, by go_num, R.out.below, R.out.sB.congr fun i hi => ?_, R.out.rB⟩
            simp only [withF]
            split <;> split <;> first | rfl | omega
          case measure => simp [intOf]; omega
      · have e1 : decide (0 ≤ a + (k : Int)) = false := by simpa using h1
        clear hcell
        go_wp2_with fail
        go_roundw
        case rel =>
          refine ⟨k + 1, by omega, by go_num, R.out.below, R.out.sB.congr fun i hi => ?_, R.out.rB⟩
          simp only [withF]
          split <;> split <;> first | rfl | omega
        case measure => simp [intOf]; omega
    · have hkn : k = n := by omega
      subst hkn
      have V := R.out.sB
      have X := R.out.rB
      have B := Lib.hid R.out.below
      clear R hk hlt R0
      go_wp2_with (first | (refine wpList_load_row rfl 30 _ rfl (w.heap.size) rfl 30 _ (0, 0) _ (V) Try.underlying30 rfl (ist.trans (by rw [arrv_size])) ?_) | (refine wpList_store_row rfl 30 _ _ rfl (w.heap.size + 1) _ rfl rfl 30 _ (X) (ist.trans (by rw [arrv_size])) (by rw [arrv_size, arrv_size]) (oneCell_arrv _ _) ?_))
      refine bodyPost_ret (results_cell_row Try.results48 _ _ (w.heap.size + 1) 30 (arrv 24 (withF S a k L)) (0, 0) _ rfl (setRow_heap _ _ _ _ _ _ X) Try.underlying30 rfl (ist.trans (by rw [arrv_size]))) rfl ⟨rfl, below_row B.out (by omega) _⟩
end Go.Proofs.Ytanmddenleffaaa
namespace Go.Proofs.Ytanmddenleffaaa
open Go
theorem getD_keeps {listed : Array Bool} {i L : Nat} (h : listed.getD L false = true) : (listed.setIfInBounds i true).getD L false = true := by
  by_cases hi : i = L
  · subst hi
    rcases Nat.lt_or_ge i listed.size with h' | h'
    · simp [h']
    · simp [Array.getElem?_eq_none h'] at h
  · rw [getD_set_ne' false hi]; exact h
theorem wpAnyM_of_any {P : Program} {md : Region.Mode} {ops : Array Oper} {Q : Exit → Act → World → Prop} {S : World → Prop} {L : Nat} : ∀ (fuel : Nat) (listed : Array Bool) (a : Act) (w : World), listed.getD L false = true → wpAny P md ops Q fuel listed a w → wpAnyM P md ops Q S L fuel listed a w
  | 0, _, _, _, _, h => h
  | fuel + 1, _, _, _, hL, h => ⟨h.1, fun i hi => wpOp_mono (fun a' w' h' => ⟨.inl (getD_keeps hL), wpAnyM_of_any fuel _ a' w' (getD_keeps hL) h'⟩) (h.2 i hi)⟩
theorem wpAnyM_switch {P : Program} {md : Region.Mode} {ops : Array Oper} {Q : Exit → Act → World → Prop} {S : World → Prop} {L : Nat} (S' : World → Prop) (L' : Nat) {fuel : Nat} {listed : Array Bool} {a : Act} {w : World}
    (hL : listed.getD L false = true) (hS : S' w) (h : S' w → wpAnyM P md ops Q S' L' fuel listed a w) : wpAnyM P md ops Q S L fuel listed a w :=
  wpAnyM_of_any fuel listed a w hL (wpAny_of_M fuel listed a w (h hS))
/-- Take number i first: x waits for it, and L for x. -/
theorem wpAnyM_first2 {P : Program} {md : Region.Mode} {ops : Array Oper} {Q : Exit → Act → World → Prop} {S : World → Prop} {L : Nat} {i x : Nat} {oi : Oper} {v : Value} (hi : ops[i]? = some oi) (hsel : ∀ (j : Nat) (o : Oper) cs b, ops[j]? = some o → o.op ≠ .select cs b)
    (hQ : ∀ c a w, Q (.panic c) (a.put oi.dst v) w → Q (.panic c) a w) (hiL : i ≠ L) (hiX : i ≠ x)
    (hX : Region.waitsFor md ops x i = true) (hL : Region.waitsFor md ops L x = true) :
    ∀ (fuel : Nat) (listed : Array Bool) (a : Act) (w : World), listed.getD L false = false → listed.getD x true = false →
      (∀ j oj, ops[j]? = some oj → j ≠ i → listed.getD j true = false → (∀ e ∈ oj.after, Region.binds md e = true → e.on ≠ i) → oi.apart ops oj = true) →
      i ∈ Region.ready md ops listed → YieldsIf P ops S oi v a → S w →
      wpAnyM P md ops Q S L fuel (listed.setIfInBounds i true) (a.put oi.dst v) w → wpAnyM P md ops Q S L (fuel + 1) listed a w := by
  intro fuel
  induction fuel with
  | zero =>
    intro listed a w _ _ _ hr hy hGw H
    refine ⟨fun h => (by rw [h] at hr; cases hr), fun j hj => ?_⟩
    by_cases hji : j = i
    · subst hji; exact hy.wpOp hi hGw ⟨.inr hGw, H⟩
    · have := ready_mono hj hji
      rw [H.1] at this
      cases this
  | succ fuel ih =>
    intro listed a w hLw hXw hfree hr hy hGw H
    refine ⟨fun h => (by rw [h] at hr; cases hr), fun j hj => ?_⟩
    by_cases hji : j = i
    · subst hji; exact hy.wpOp hi hGw ⟨.inr hGw, H⟩
    · have h1 := H.2 j (ready_mono hj hji)
      obtain ⟨hjun, oj, hoj, hall⟩ := mem_ready.1 hj
      have hiun := (mem_ready.1 hr).1
      have hnot : ∀ e ∈ oj.after, Region.binds md e = true → e.on ≠ i := fun e he hb heq => by
        have h2 := hall e he hb
        rw [heq] at h2
        exact getD_of_ready hiun h2
      have hjX : j ≠ x := fun e => by
        subst e
        obtain ⟨oX, hoX, e, he, hb, hon⟩ := Region.waitsFor_spec hX
        have : oX = oj := Option.some.inj (hoX.symm.trans hoj)
        subst this
        exact hnot e he hb hon
      have hjL : j ≠ L := fun e => by
        subst e
        obtain ⟨oL, hoL, e, he, hb, hon⟩ := Region.waitsFor_spec hL
        have : oL = oj := Option.some.inj (hoL.symm.trans hoj)
        subst this
        have h2 := hall e he hb
        rw [hon] at h2
        exact getD_of_ready hXw h2
      have h2 := wpOp_putIf hoj (hfree j oj hoj hji hjun hnot) (fun cs b => hsel i oi cs b hi) (fun cs b => hsel j oj cs b hoj) hQ hy h1
      have hfree' : ∀ k ok, ops[k]? = some ok → k ≠ i → (listed.setIfInBounds j true).getD k true = false →
          (∀ e ∈ ok.after, Region.binds md e = true → e.on ≠ i) → oi.apart ops ok = true := fun k ok hk hki hun hno => by
        refine hfree k ok hk hki ?_ hno
        by_cases hjk : j = k
        · subst hjk; exact hjun
        · rw [getD_set_ne true hjk] at hun; exact hun
      refine wpOp_mono (fun a' w' h3 => ?_) h2
      have hL' : (listed.setIfInBounds j true).getD L false = false := by rw [getD_set_ne' _ hjL]; exact hLw
      have hX' : (listed.setIfInBounds j true).getD x true = false := by rw [getD_set_ne' _ hjX]; exact hXw
      have hS' : S w' := by
        refine h3.2.1.resolve_left fun h => ?_
        rw [Array.setIfInBounds_comm _ _ (Ne.symm hji), getD_set_ne' _ hiL, hL'] at h
        cases h
      refine ⟨.inr hS', ih (listed.setIfInBounds j true) a' w' hL' hX' hfree' (ready_mono hr (Ne.symm hji)) h3.1 hS' ?_⟩
      rw [Array.setIfInBounds_comm _ _ hji]
      exact h3.2.2
theorem wpAnyM_take2 (x : Nat) (i : Nat) {P : Program} {md : Region.Mode} {ops : Array Oper} {Q : Exit → Act → World → Prop} {S : World → Prop} {L : Nat} {oi : Oper} {v : Value} {fuel : Nat} {listed : Array Bool} {a : Act} {w : World} (hi' : ops.toList[i]? = some oi)
    (hk : (Region.noSelect ops && (Region.free md ops listed i && ((Region.ready md ops listed).contains i && (Region.waitsFor md ops x i && (Region.waitsFor md ops L x && (!listed.getD L false && (!listed.getD x true && (!(i == L) && !(i == x))))))))) = true)
    (hQ : ∀ c a w, Q (.panic c) (a.put oi.dst v) w → Q (.panic c) a w) (hy : YieldsIf P ops S oi v a) (hS : S w)
    (h : wpAnyM P md ops Q S L fuel (listed.setIfInBounds i true) (a.put oi.dst v) w) : wpAnyM P md ops Q S L (fuel + 1) listed a w := by
  have hi : ops[i]? = some oi := by rwa [Array.getElem?_toList] at hi'
  simp only [Bool.and_eq_true, Bool.not_eq_true'] at hk
  obtain ⟨k1, k2, k3, k4, k5, k6, k7, k8, k9⟩ := hk
  exact wpAnyM_first2 hi (Region.noSelect_spec k1) hQ (by simpa using k8) (by simpa using k9) k4 k5 fuel listed a w k6 k7 (Region.free_spec hi k2) (by simpa using k3) hy hS h
end Go.Proofs.Ytanmddenleffaaa
namespace Go.Proofs.Ytanmddenleffaaa
open Go.RowKit
set_option maxRecDepth 100000
theorem q4_eq (F : Nat → Int) : arrv 4 (q4 (F 0) (F 1) (F 2) (F 3)) = arrv 4 F := arrv_congr fun i hi => by
  obtain rfl | rfl | rfl | rfl : i = 0 ∨ i = 1 ∨ i = 2 ∨ i = 3 := by omega
  all_goals rfl
set_option maxHeartbeats 4000000 in
theorem qdot_any (c : Addr) (h : Bool) (cb ab : Nat) (q : Nat → Int) (x0 x1 x2 x3 : Int) (w : World) (S0 : QcR c h cb ab q w w) :
    Calls Try.prog 69 #[.int .i64 x0, .int .i64 x1, .int .i64 x2, .int .i64 x3, .pointer (some ⟨cb, 0, none⟩), .pointer (some ⟨ab, 0, none⟩)] w fun e w' =>
      e = .returned (.int .i64 (dotV 30 q (q4 x0 x1 x2 x3) 4)) ∧ Upd c (h || dotH 30 q (q4 x0 x1 x2 x3) 4) w w' := by
  have HS := Lib.hid S0.drew
  clear S0
  go_enter Try.func69, Try.ntmps69
  go_upto_region 1 with fail
  refine wp_region_M (fun w' => w'.cell? ⟨cb, 0, none⟩ = some (.pointer (some c))) 8 (by kernel_rfl) ?_ (fun hHeld => ?_)
  · exact HS.out.ptr
  refine wpAnyM_take 0 (v := ?_) rfl (by kernel_rfl) (fun _ _ _ h => h) (Or.inl ⟨by rfl, ?_⟩) (by assumption) ?_
  rotate_left
  · (intro wx hSw; (try dsimp only at hSw); go_simp; (try with_reducible rfl))
  (try simp only [Act.put, nA, nB, nC])
  refine wpAnyM_take 1 (v := ?_) rfl (by kernel_rfl) (fun _ _ _ h => h) (Or.inl ⟨by rfl, ?_⟩) (by assumption) ?_
  rotate_left
  · (intro wx hSw; (try dsimp only at hSw); go_simp; (try with_reducible rfl))
  (try simp only [Act.put, nA, nB, nC])
  refine wpAnyM_take 2 (v := ?_) rfl (by kernel_rfl) (fun _ _ _ h => h) (Or.inl ⟨by rfl, ?_⟩) (by assumption) ?_
  rotate_left
  · (intro wx hSw; (try dsimp only at hSw); go_simp; (try with_reducible rfl))
  (try simp only [Act.put, nA, nB, nC])
  refine wpAnyM_take 3 (v := ?_) rfl (by kernel_rfl) (fun _ _ _ h => h) (Or.inl ⟨by rfl, ?_⟩) (by assumption) ?_
  rotate_left
  · (intro wx hSw; (try dsimp only at hSw); go_simp; (try with_reducible rfl))
  (try simp only [Act.put, nA, nB, nC])
  refine wpAnyM_take 4 (v := ?_) rfl (by kernel_rfl) (fun _ _ _ h => h) (Or.inl ⟨by rfl, ?_⟩) (by assumption) ?_
  rotate_left
  · (intro wx hSw; (try dsimp only at hSw); go_simp; (try with_reducible rfl))
  (try simp only [Act.put, nA, nB, nC])
  refine wpAnyM_take 5 (v := ?_) rfl (by kernel_rfl) (fun _ _ _ h => h) (Or.inl ⟨by rfl, ?_⟩) (by assumption) ?_
  rotate_left
  · (intro wx hSw; (try dsimp only at hSw); go_simp; (try with_reducible rfl))
  (try simp only [Act.put, nA, nB, nC])
  refine wpAnyM_oneS 6 rfl (by kernel_rfl) (fun K hK => ?_)
  go_simp; have HT := Lib.hid (HS.out.down (Below.alloc (Below.refl _ _) (Nat.le_refl _) (.cells #[.int .i64 x0, .int .i64 x1, .int .i64 x2, .int .i64 x3] 2))); have L4 := Lib.hid (lst4 w.drew 2 x0 x1 x2 x3); clear HS; have HS := HT; clear HT
  clear hHeld
  refine hK.out _ _ ?_ (fun hHeld => ?_)
  · exact HS.out.ptr
  clear hK K
  (try simp only [Act.put, nA, nB, nC])
  refine wpAnyM_oneS 7 rfl (by kernel_rfl) (fun K hK => ?_)
  go_simp
  (refine (dot_any c h 30 q (q4 x0 x1 x2 x3) ab 0 4 w.drew.heap.size 0 4 4 _ HS.out.cell HS.out.free (by decide) (by decide) (by decide) (fun i hi => by rw [Nat.zero_add]; exact HS.out.a.cell hi) L4.out).mono ?_); rintro e w2 ⟨rfl, hu⟩; have HT := Lib.hid (HS.out.upd' hu); clear HS L4 hu; have HS := HT; clear HT
  (try dsimp only)
  (try simp only [Act.put, nA, nB, nC])
  clear hHeld
  refine hK.out _ _ ?_ (fun hHeld => ?_)
  · exact HS.out.ptr
  clear hK K
  (try simp only [Act.put, nA, nB, nC])
  refine wpAnyM_one 8 rfl (by kernel_rfl) (fun K hK => ?_)
  go_simp
  refine hK.out _ _ (.inl (by kernel_rfl)) (fun _ => ?_)
  clear hK K
  (try simp only [Act.put, nA, nB, nC])
  refine wpAnyM_done (by kernel_rfl) ?_ _
  go_wp2_with fail
  go_ret
  exact ⟨rfl, HS.out.upd⟩
end Go.Proofs.Ytanmddenleffaaa
namespace Go.Proofs.Ytanmddenleffaaa
open Go.RowKit
set_option maxRecDepth 100000
theorem qm_start (c : Addr) (h : Bool) (A B : Nat → Int) (w : World) (hc : w.cell? c = some (.bool h)) (hf : w.frozen? c = false) :
    QmR c h A B w ((((w.alloc (.cells #[.pointer (some c)] 23)).alloc (.cells (arrv 4 A) 40)).alloc (.cells (arrv 4 B) 40)).alloc (.cells #[.int .i64 0, .int .i64 0, .int .i64 0, .int .i64 0] 40)) := by
  have hcb := World.block_lt_of_cell? w c hc
  have bl : Below w.heap.size w ((((w.alloc (.cells #[.pointer (some c)] 23)).alloc (.cells (arrv 4 A) 40)).alloc (.cells (arrv 4 B) 40)).alloc (.cells #[.int .i64 0, .int .i64 0, .int .i64 0, .int .i64 0] 40)) := by (repeat (first | with_reducible exact Below.refl _ _ | with_reducible apply Below.drew | (with_reducible refine below_drewN ?_ _) | (with_reducible refine Below.alloc ?_ (by (try simp) <;> omega) _) | (with_reducible refine Below.setCell ?_ (by (try simp) <;> omega) _)))
  refine ⟨Upd.then (Upd.refl hc) bl, ?_, ?_, ?_, ?_, (bl.cell hcb).trans hc, (bl.frozen hcb).trans hf, hcb⟩
  · simp [go_sem]
  · exact ((Blk.new1 w _ _ 4 A).alloc _).alloc _
  · exact (blk_new2 w _ _ _ 4 B).alloc _
  · rw [zq4]; exact blk_new3 w _ _ _ _ 4 _
set_option maxHeartbeats 8000000 in
theorem qmul_any (c : Addr) (h : Bool) (A B : Nat → Int) (w : World) (hc : w.cell? c = some (.bool h)) (hf : w.frozen? c = false) :
    Calls Try.prog 44 #[.pointer (some c), .agg (arrv 4 A), .agg (arrv 4 B)] w fun e w' => e = .returned (.agg (arrv 4 (qmV A B))) ∧ Upd c (h || qmH A B) w w' := by
  have hmf : ∀ (fn : Fn) (first cap : Array Value) (w : World), (Instr.makeFunc fn first cap).run Try.prog w = .ok (.func fn first cap) w := fun _ _ _ _ => rfl
  have S0 := Lib.hid (qm_start c h A B w hc hf)
  clear hc hf
  go_enter Try.func44, Try.ntmps44
  go_upto_region 1 with fail
  generalize (((w.alloc (.cells #[.pointer (some c)] 23)).alloc (.cells (arrv 4 A) 40)).alloc (.cells (arrv 4 B) 40)).alloc (.cells #[.int .i64 0, .int .i64 0, .int .i64 0, .int .i64 0] 40) = W0 at *
  have HS := Lib.hid S0.out.drew
  clear S0
  refine wp_region_M (fun w' => w'.cell? ⟨w.heap.size, 0, none⟩ = some (.pointer (some c)) ∧ Blk w' (w.heap.size + 1) 40 4 A ∧ Blk w' (w.heap.size + 1 + 1) 40 4 B) 5 (by kernel_rfl) ?_ (fun hHeld => ?_)
  · exact ⟨HS.out.ptr, HS.out.a, HS.out.b⟩
  refine wpAnyM_take2 2 0 (v := ?_) rfl (by kernel_rfl) (fun _ _ _ h => h) (Or.inl ⟨by rfl, ?_⟩) (by assumption) ?_
  rotate_left
  · (intro wx hSw; have h0 := hSw.1; go_simp; (try with_reducible rfl))
  (try simp only [Act.put, nA, nB, nC])
  refine wpAnyM_take2 2 1 (v := ?_) rfl (by kernel_rfl) (fun _ _ _ h => h) (Or.inl ⟨by rfl, ?_⟩) (by assumption) ?_
  rotate_left
  · (intro wx hSw; refine Eq.trans (run_load_row 40 (.tmp 4) (by rfl) (w.heap.size + 1) (by rfl) _ _ _ _ (hSw.2.1) Try.underlying40 rfl (iqt.trans (by rw [arrv_size]))) ?_; with_reducible rfl)
  (try simp only [Act.put, nA, nB, nC])
  refine wpAnyM_take 3 (v := ?_) rfl (by kernel_rfl) (fun _ _ _ h => h) (Or.inl ⟨by rfl, ?_⟩) (by assumption) ?_
  rotate_left
  · (intro wx hSw; have h0 := hSw.1; go_simp; (try with_reducible rfl))
  (try simp only [Act.put, nA, nB, nC])
  refine wpAnyM_take 4 (v := ?_) rfl (by kernel_rfl) (fun _ _ _ h => h) (Or.inl ⟨by rfl, ?_⟩) (by assumption) ?_
  rotate_left
  · (intro wx hSw; refine Eq.trans (run_load_row 40 (.tmp 5) (by rfl) (w.heap.size + 1 + 1) (by rfl) _ _ _ _ (hSw.2.2) Try.underlying40 rfl (iqt.trans (by rw [arrv_size]))) ?_; with_reducible rfl)
  (try simp only [Act.put, nA, nB, nC])
  refine wpAnyM_oneS 2 rfl (by kernel_rfl) (fun K hK => ?_)
  go_simp
  (refine (qsat_any c _ A _ HS.out.cell HS.out.free).mono ?_); rintro e w1 ⟨rfl, hu⟩; have HT := Lib.hid (HS.out.upd' hu); clear HS hu; have HS := HT; clear HT
  (try dsimp only)
  (try simp only [Act.put, nA, nB, nC])
  clear hHeld
  refine hK.out _ _ ?_ (fun hHeld => ?_)
  · exact ⟨HS.out.ptr, HS.out.a, HS.out.b⟩
  clear hK K
  (try simp only [Act.put, nA, nB, nC])
  refine wpAnyM_one 5 rfl (by kernel_rfl) (fun K hK => ?_)
  go_simp
  (refine (qsat_any c _ B _ HS.out.cell HS.out.free).mono ?_); rintro e w2 ⟨rfl, hu⟩; have HT := Lib.hid (HS.out.upd' hu); clear HS hu; have HS := HT; clear HT
  (try dsimp only)
  (try simp only [Act.put, nA, nB, nC])
  refine hK.out _ _ (.inl (by kernel_rfl)) (fun _ => ?_)
  clear hK K
  (try simp only [Act.put, nA, nB, nC])
  refine wpAnyM_switch (fun _ => True) 7 (by kernel_rfl) ?_ (fun hHeld => ?_)
  · trivial
  refine wpAnyM_oneS 6 rfl (by kernel_rfl) (fun K hK => ?_)
  go_simp; rw [if_pos (arrv_size _ _), run_storeCells_row _ HS.out.a]; go_simp; have HT := Lib.hid (HS.out.rowA (satA A)); clear HS; have HS := HT; clear HT
  clear hHeld
  refine hK.out _ _ ?_ (fun hHeld => ?_)
  · trivial
  clear hK K
  (try simp only [Act.put, nA, nB, nC])
  refine wpAnyM_one 7 rfl (by kernel_rfl) (fun K hK => ?_)
  go_simp; rw [if_pos (arrv_size _ _), run_storeCells_row _ HS.out.b]; go_simp; have HT := Lib.hid (HS.out.rowB (satA B)); clear HS; have HS := HT; clear HT
  refine hK.out _ _ (.inl (by kernel_rfl)) (fun _ => ?_)
  clear hK K
  (try simp only [Act.put, nA, nB, nC])
  refine wpAnyM_switch (fun _ => True) 7 (by kernel_rfl) ?_ (fun hHeld => ?_)
  · trivial
  refine wpAnyM_done (by kernel_rfl) ?_ _
  generalize (w2.setRow (w.heap.size + 1) (arrv 4 (satA A))).setRow (w.heap.size + 1 + 1) (arrv 4 (satA B)) = W3 at *
  have bb : ∀ i, -1152921504606846976 ≤ satA B i ∧ satA B i ≤ 1152921504606846976 := fun i => satV_bd _
  obtain ⟨F, hF⟩ : ∃ x, satA A = x := ⟨_, rfl⟩
  obtain ⟨G, hG⟩ : ∃ x, satA B = x := ⟨_, rfl⟩
  obtain ⟨H1, hH1⟩ : ∃ x, (h || orB (fun i => satH (A i)) 4 || orB (fun i => satH (B i)) 4) = x := ⟨_, rfl⟩
  rw [hF, hG, hH1] at HS
  rw [hG] at bb
  have HE := Lib.hid (show (fun r => dotV 30 F (qmR G r) 4) = qmV A B ∧ (H1 || orB (fun r => dotH 30 F (qmR G r) 4) 4) = (h || qmH A B) by
    rw [← hF, ← hG, ← hH1]; exact ⟨rfl, by unfold qmH; simp [Bool.or_assoc]⟩)
  clear hF hG hH1
  have e1 : IntKind.i64.wrap (-(G 1)) = -(G 1) := IntWalk.i64_in _ (by have := bb 1; omega)
  have e2 : IntKind.i64.wrap (-(G 2)) = -(G 2) := IntWalk.i64_in _ (by have := bb 2; omega)
  have e3 : IntKind.i64.wrap (-(G 3)) = -(G 3) := IntWalk.i64_in _ (by have := bb 3; omega)
  obtain ⟨g0, h0⟩ : ∃ x, G 0 = x := ⟨_, rfl⟩
  obtain ⟨g1, h1⟩ : ∃ x, G 1 = x := ⟨_, rfl⟩
  obtain ⟨g2, h2⟩ : ∃ x, G 2 = x := ⟨_, rfl⟩
  obtain ⟨g3, h3⟩ : ∃ x, G 3 = x := ⟨_, rfl⟩
  rw [h1] at e1
  rw [h2] at e2
  rw [h3] at e3
  have HG := Lib.hid (And.intro (And.intro h0 h1) (And.intro h2 h3))
  clear h0 h1 h2 h3 bb
  go_upto_region 3 with fail
  have HT := Lib.hid HS.out.drew
  clear HS
  have HS := HT
  clear HT
  refine wp_region_M (fun w' => w'.cell? ⟨w.heap.size + 1 + 1, 0, none⟩ = some (.int .i64 g0) ∧ w'.cell? ⟨w.heap.size + 1 + 1, 1, none⟩ = some (.int .i64 g1) ∧ w'.cell? ⟨w.heap.size + 1 + 1, 2, none⟩ = some (.int .i64 g2) ∧ w'.cell? ⟨w.heap.size + 1 + 1, 3, none⟩ = some (.int .i64 g3)) 47 (by kernel_rfl) ?_ (fun hHeld => ?_)
  · exact ⟨by rw [← HG.out.1.1]; exact HS.out.b.cell (by decide), by rw [← HG.out.1.2]; exact HS.out.b.cell (by decide), by rw [← HG.out.2.1]; exact HS.out.b.cell (by decide), by rw [← HG.out.2.2]; exact HS.out.b.cell (by decide)⟩
  refine wpAnyM_take 0 (v := ?_) rfl (by kernel_rfl) (fun _ _ _ h => h) (Or.inl ⟨by rfl, ?_⟩) (by assumption) ?_
  rotate_left
  · (intro wx hSw; (try dsimp only at hSw); go_simp; (try with_reducible rfl))
  (try simp only [Act.put, nA, nB, nC])
  refine wpAnyM_take 1 (v := ?_) rfl (by kernel_rfl) (fun _ _ _ h => h) (Or.inl ⟨by rfl, ?_⟩) (by assumption) ?_
  rotate_left
  · (intro wx hSw; (try dsimp only at hSw); go_simp; (try with_reducible rfl))
  (try simp only [Act.put, nA, nB, nC])
  refine wpAnyM_take 2 (v := ?_) rfl (by kernel_rfl) (fun _ _ _ h => h) (Or.inl ⟨by rfl, ?_⟩) (by assumption) ?_
  rotate_left
  · (intro wx hSw; (try dsimp only at hSw); go_simp; (try with_reducible rfl))
  (try simp only [Act.put, nA, nB, nC])
  refine wpAnyM_take 3 (v := ?_) rfl (by kernel_rfl) (fun _ _ _ h => h) (Or.inl ⟨by rfl, ?_⟩) (by assumption) ?_
  rotate_left
  · (intro wx hSw; (try dsimp only at hSw); go_simp; (try with_reducible rfl))
  (try simp only [Act.put, nA, nB, nC])
  refine wpAnyM_take 4 (v := ?_) rfl (by kernel_rfl) (fun _ _ _ h => h) (Or.inl ⟨by rfl, ?_⟩) (by assumption) ?_
  rotate_left
  · (intro wx hSw; (try dsimp only at hSw); go_simp; (try with_reducible rfl))
  (try simp only [Act.put, nA, nB, nC])
  refine wpAnyM_take 5 (v := ?_) rfl (by kernel_rfl) (fun _ _ _ h => h) (Or.inl ⟨by rfl, ?_⟩) (by assumption) ?_
  rotate_left
  · (intro wx hSw; (try dsimp only at hSw); go_simp; (try with_reducible rfl))
  (try simp only [Act.put, nA, nB, nC])
  refine wpAnyM_take 6 (v := ?_) rfl (by kernel_rfl) (fun _ _ _ h => h) (Or.inl ⟨by rfl, ?_⟩) (by assumption) ?_
  rotate_left
  · (intro wx hSw; (try dsimp only at hSw); go_simp; (try with_reducible rfl))
  (try simp only [Act.put, nA, nB, nC])
  refine wpAnyM_take 7 (v := ?_) rfl (by kernel_rfl) (fun _ _ _ h => h) (Or.inl ⟨by rfl, ?_⟩) (by assumption) ?_
  rotate_left
  · (intro wx hSw; (try dsimp only at hSw); go_simp; (try with_reducible rfl))
  (try simp only [Act.put, nA, nB, nC])
  refine wpAnyM_take 8 (v := ?_) rfl (by kernel_rfl) (fun _ _ _ h => h) (Or.inl ⟨by rfl, ?_⟩) (by assumption) ?_
  rotate_left
  · (intro wx hSw; (try dsimp only at hSw); go_simp; (try with_reducible rfl))
  (try simp only [Act.put, nA, nB, nC])
  refine wpAnyM_take 9 (v := ?_) rfl (by kernel_rfl) (fun _ _ _ h => h) (Or.inl ⟨by rfl, ?_⟩) (by assumption) ?_
  rotate_left
  · (intro wx hSw; (try dsimp only at hSw); go_simp; (try with_reducible rfl))
  (try simp only [Act.put, nA, nB, nC])
  refine wpAnyM_take 10 (v := ?_) rfl (by kernel_rfl) (fun _ _ _ h => h) (Or.inl ⟨by rfl, ?_⟩) (by assumption) ?_
  rotate_left
  · (intro wx hSw; (try dsimp only at hSw); go_simp; (try with_reducible rfl))
  (try simp only [Act.put, nA, nB, nC])
  refine wpAnyM_take 11 (v := ?_) rfl (by kernel_rfl) (fun _ _ _ h => h) (Or.inl ⟨by rfl, ?_⟩) (by assumption) ?_
  rotate_left
  · (intro wx hSw; (try dsimp only at hSw); go_simp; (try with_reducible rfl))
  (try simp only [Act.put, nA, nB, nC])
  refine wpAnyM_take 13 (v := ?_) rfl (by kernel_rfl) (fun _ _ _ h => h) (Or.inl ⟨by rfl, ?_⟩) (by assumption) ?_
  rotate_left
  · (intro wx hSw; (try dsimp only at hSw); go_simp; (try with_reducible rfl))
  (try simp only [Act.put, nA, nB, nC])
  refine wpAnyM_take 14 (v := ?_) rfl (by kernel_rfl) (fun _ _ _ h => h) (Or.inl ⟨by rfl, ?_⟩) (by assumption) ?_
  rotate_left
  · (intro wx hSw; (try dsimp only at hSw); go_simp; (try with_reducible rfl))
  (try simp only [Act.put, nA, nB, nC])
  refine wpAnyM_take 15 (v := ?_) rfl (by kernel_rfl) (fun _ _ _ h => h) (Or.inl ⟨by rfl, ?_⟩) (by assumption) ?_
  rotate_left
  · (intro wx hSw; (try dsimp only at hSw); go_simp; (try with_reducible rfl))
  (try simp only [Act.put, nA, nB, nC])
  refine wpAnyM_take 16 (v := ?_) rfl (by kernel_rfl) (fun _ _ _ h => h) (Or.inl ⟨by rfl, ?_⟩) (by assumption) ?_
  rotate_left
  · (intro wx hSw; (try dsimp only at hSw); go_simp; (try with_reducible rfl))
  (try simp only [Act.put, nA, nB, nC])
  refine wpAnyM_take 17 (v := ?_) rfl (by kernel_rfl) (fun _ _ _ h => h) (Or.inl ⟨by rfl, ?_⟩) (by assumption) ?_
  rotate_left
  · (intro wx hSw; (try dsimp only at hSw); go_simp; (try with_reducible rfl))
  (try simp only [Act.put, nA, nB, nC])
  refine wpAnyM_take 18 (v := ?_) rfl (by kernel_rfl) (fun _ _ _ h => h) (Or.inl ⟨by rfl, ?_⟩) (by assumption) ?_
  rotate_left
  · (intro wx hSw; (try dsimp only at hSw); go_simp; (try with_reducible rfl))
  (try simp only [Act.put, nA, nB, nC])
  refine wpAnyM_take 19 (v := ?_) rfl (by kernel_rfl) (fun _ _ _ h => h) (Or.inl ⟨by rfl, ?_⟩) (by assumption) ?_
  rotate_left
  · (intro wx hSw; (try dsimp only at hSw); go_simp; (try with_reducible rfl))
  (try simp only [Act.put, nA, nB, nC])
  refine wpAnyM_take 20 (v := ?_) rfl (by kernel_rfl) (fun _ _ _ h => h) (Or.inl ⟨by rfl, ?_⟩) (by assumption) ?_
  rotate_left
  · (intro wx hSw; (try dsimp only at hSw); go_simp; (try with_reducible rfl))
  (try simp only [Act.put, nA, nB, nC])
  refine wpAnyM_take 21 (v := ?_) rfl (by kernel_rfl) (fun _ _ _ h => h) (Or.inl ⟨by rfl, ?_⟩) (by assumption) ?_
  rotate_left
  · (intro wx hSw; (try dsimp only at hSw); go_simp; (try with_reducible rfl))
  (try simp only [Act.put, nA, nB, nC])
  refine wpAnyM_take 22 (v := ?_) rfl (by kernel_rfl) (fun _ _ _ h => h) (Or.inl ⟨by rfl, ?_⟩) (by assumption) ?_
  rotate_left
  · (intro wx hSw; (try dsimp only at hSw); go_simp; (try with_reducible rfl))
  (try simp only [Act.put, nA, nB, nC])
  refine wpAnyM_take 24 (v := ?_) rfl (by kernel_rfl) (fun _ _ _ h => h) (Or.inl ⟨by rfl, ?_⟩) (by assumption) ?_
  rotate_left
  · (intro wx hSw; (try dsimp only at hSw); go_simp; (try with_reducible rfl))
  (try simp only [Act.put, nA, nB, nC])
  refine wpAnyM_take 25 (v := ?_) rfl (by kernel_rfl) (fun _ _ _ h => h) (Or.inl ⟨by rfl, ?_⟩) (by assumption) ?_
  rotate_left
  · (intro wx hSw; (try dsimp only at hSw); go_simp; (try with_reducible rfl))
  (try simp only [Act.put, nA, nB, nC])
  refine wpAnyM_take 26 (v := ?_) rfl (by kernel_rfl) (fun _ _ _ h => h) (Or.inl ⟨by rfl, ?_⟩) (by assumption) ?_
  rotate_left
  · (intro wx hSw; (try dsimp only at hSw); go_simp; (try with_reducible rfl))
  (try simp only [Act.put, nA, nB, nC])
  refine wpAnyM_take 27 (v := ?_) rfl (by kernel_rfl) (fun _ _ _ h => h) (Or.inl ⟨by rfl, ?_⟩) (by assumption) ?_
  rotate_left
  · (intro wx hSw; (try dsimp only at hSw); go_simp; (try with_reducible rfl))
  (try simp only [Act.put, nA, nB, nC])
  refine wpAnyM_take 28 (v := ?_) rfl (by kernel_rfl) (fun _ _ _ h => h) (Or.inl ⟨by rfl, ?_⟩) (by assumption) ?_
  rotate_left
  · (intro wx hSw; (try dsimp only at hSw); go_simp; (try with_reducible rfl))
  (try simp only [Act.put, nA, nB, nC])
  refine wpAnyM_take 29 (v := ?_) rfl (by kernel_rfl) (fun _ _ _ h => h) (Or.inl ⟨by rfl, ?_⟩) (by assumption) ?_
  rotate_left
  · (intro wx hSw; (try dsimp only at hSw); go_simp; (try with_reducible rfl))
  (try simp only [Act.put, nA, nB, nC])
  refine wpAnyM_take 30 (v := ?_) rfl (by kernel_rfl) (fun _ _ _ h => h) (Or.inl ⟨by rfl, ?_⟩) (by assumption) ?_
  rotate_left
  · (intro wx hSw; (try dsimp only at hSw); go_simp; (try with_reducible rfl))
  (try simp only [Act.put, nA, nB, nC])
  refine wpAnyM_take 31 (v := ?_) rfl (by kernel_rfl) (fun _ _ _ h => h) (Or.inl ⟨by rfl, ?_⟩) (by assumption) ?_
  rotate_left
  · (intro wx hSw; (try dsimp only at hSw); go_simp; (try with_reducible rfl))
  (try simp only [Act.put, nA, nB, nC])
  refine wpAnyM_take 32 (v := ?_) rfl (by kernel_rfl) (fun _ _ _ h => h) (Or.inl ⟨by rfl, ?_⟩) (by assumption) ?_
  rotate_left
  · (intro wx hSw; (try dsimp only at hSw); go_simp; (try with_reducible rfl))
  (try simp only [Act.put, nA, nB, nC])
  refine wpAnyM_take 33 (v := ?_) rfl (by kernel_rfl) (fun _ _ _ h => h) (Or.inl ⟨by rfl, ?_⟩) (by assumption) ?_
  rotate_left
  · (intro wx hSw; (try dsimp only at hSw); go_simp; (try with_reducible rfl))
  (try simp only [Act.put, nA, nB, nC])
  refine wpAnyM_take 35 (v := ?_) rfl (by kernel_rfl) (fun _ _ _ h => h) (Or.inl ⟨by rfl, ?_⟩) (by assumption) ?_
  rotate_left
  · (intro wx hSw; (try dsimp only at hSw); go_simp; (try with_reducible rfl))
  (try simp only [Act.put, nA, nB, nC])
  refine wpAnyM_take 36 (v := ?_) rfl (by kernel_rfl) (fun _ _ _ h => h) (Or.inl ⟨by rfl, ?_⟩) (by assumption) ?_
  rotate_left
  · (intro wx hSw; (try dsimp only at hSw); go_simp; (try with_reducible rfl))
  (try simp only [Act.put, nA, nB, nC])
  refine wpAnyM_take 37 (v := ?_) rfl (by kernel_rfl) (fun _ _ _ h => h) (Or.inl ⟨by rfl, ?_⟩) (by assumption) ?_
  rotate_left
  · (intro wx hSw; (try dsimp only at hSw); go_simp; (try with_reducible rfl))
  (try simp only [Act.put, nA, nB, nC])
  refine wpAnyM_take 38 (v := ?_) rfl (by kernel_rfl) (fun _ _ _ h => h) (Or.inl ⟨by rfl, ?_⟩) (by assumption) ?_
  rotate_left
  · (intro wx hSw; (try dsimp only at hSw); go_simp; (try with_reducible rfl))
  (try simp only [Act.put, nA, nB, nC])
  refine wpAnyM_take 39 (v := ?_) rfl (by kernel_rfl) (fun _ _ _ h => h) (Or.inl ⟨by rfl, ?_⟩) (by assumption) ?_
  rotate_left
  · (intro wx hSw; (try dsimp only at hSw); go_simp; (try with_reducible rfl))
  (try simp only [Act.put, nA, nB, nC])
  refine wpAnyM_take 40 (v := ?_) rfl (by kernel_rfl) (fun _ _ _ h => h) (Or.inl ⟨by rfl, ?_⟩) (by assumption) ?_
  rotate_left
  · (intro wx hSw; (try dsimp only at hSw); go_simp; (try with_reducible rfl))
  (try simp only [Act.put, nA, nB, nC])
  refine wpAnyM_take 41 (v := ?_) rfl (by kernel_rfl) (fun _ _ _ h => h) (Or.inl ⟨by rfl, ?_⟩) (by assumption) ?_
  rotate_left
  · (intro wx hSw; (try dsimp only at hSw); go_simp; (try with_reducible rfl))
  (try simp only [Act.put, nA, nB, nC])
  refine wpAnyM_take 42 (v := ?_) rfl (by kernel_rfl) (fun _ _ _ h => h) (Or.inl ⟨by rfl, ?_⟩) (by assumption) ?_
  rotate_left
  · (intro wx hSw; (try dsimp only at hSw); go_simp; (try with_reducible rfl))
  (try simp only [Act.put, nA, nB, nC])
  refine wpAnyM_take 43 (v := ?_) rfl (by kernel_rfl) (fun _ _ _ h => h) (Or.inl ⟨by rfl, ?_⟩) (by assumption) ?_
  rotate_left
  · (intro wx hSw; (try dsimp only at hSw); go_simp; (try with_reducible rfl))
  (try simp only [Act.put, nA, nB, nC])
  refine wpAnyM_take 44 (v := ?_) rfl (by kernel_rfl) (fun _ _ _ h => h) (Or.inl ⟨by rfl, ?_⟩) (by assumption) ?_
  rotate_left
  · (intro wx hSw; (try dsimp only at hSw); go_simp; (try with_reducible rfl))
  (try simp only [Act.put, nA, nB, nC])
  refine wpAnyM_oneS 12 rfl (by kernel_rfl) (fun K hK => ?_)
  go_simp
  (refine (qdot_any c _ w.heap.size (w.heap.size + 1) F g0 (-g1) (-g2) (-g3) _ HS.out.qc).mono ?_); rintro e w4 ⟨rfl, hu⟩; have HT := Lib.hid (HS.out.upd' hu); clear HS hu; have HS := HT; clear HT
  (try dsimp only)
  (try simp only [Act.put, nA, nB, nC])
  clear hHeld
  refine hK.out _ _ ?_ (fun hHeld => ?_)
  · exact ⟨by rw [← HG.out.1.1]; exact HS.out.b.cell (by decide), by rw [← HG.out.1.2]; exact HS.out.b.cell (by decide), by rw [← HG.out.2.1]; exact HS.out.b.cell (by decide), by rw [← HG.out.2.2]; exact HS.out.b.cell (by decide)⟩
  clear hK K
  (try simp only [Act.put, nA, nB, nC])
  refine wpAnyM_oneS 23 rfl (by kernel_rfl) (fun K hK => ?_)
  go_simp
  (refine (qdot_any c _ w.heap.size (w.heap.size + 1) F g1 g0 g3 (-g2) _ HS.out.qc).mono ?_); rintro e w5 ⟨rfl, hu⟩; have HT := Lib.hid (HS.out.upd' hu); clear HS hu; have HS := HT; clear HT
  (try dsimp only)
  (try simp only [Act.put, nA, nB, nC])
  clear hHeld
  refine hK.out _ _ ?_ (fun hHeld => ?_)
  · exact ⟨by rw [← HG.out.1.1]; exact HS.out.b.cell (by decide), by rw [← HG.out.1.2]; exact HS.out.b.cell (by decide), by rw [← HG.out.2.1]; exact HS.out.b.cell (by decide), by rw [← HG.out.2.2]; exact HS.out.b.cell (by decide)⟩
  clear hK K
  (try simp only [Act.put, nA, nB, nC])
  refine wpAnyM_oneS 34 rfl (by kernel_rfl) (fun K hK => ?_)
  go_simp
  (refine (qdot_any c _ w.heap.size (w.heap.size + 1) F g2 (-g3) g0 g1 _ HS.out.qc).mono ?_); rintro e w6 ⟨rfl, hu⟩; have HT := Lib.hid (HS.out.upd' hu); clear HS hu; have HS := HT; clear HT
  (try dsimp only)
  (try simp only [Act.put, nA, nB, nC])
  clear hHeld
  refine hK.out _ _ ?_ (fun hHeld => ?_)
  · exact ⟨by rw [← HG.out.1.1]; exact HS.out.b.cell (by decide), by rw [← HG.out.1.2]; exact HS.out.b.cell (by decide), by rw [← HG.out.2.1]; exact HS.out.b.cell (by decide), by rw [← HG.out.2.2]; exact HS.out.b.cell (by decide)⟩
  clear hK K
  (try simp only [Act.put, nA, nB, nC])
  refine wpAnyM_oneS 45 rfl (by kernel_rfl) (fun K hK => ?_)
  go_simp
  (refine (qdot_any c _ w.heap.size (w.heap.size + 1) F g3 g2 (-g1) g0 _ HS.out.qc).mono ?_); rintro e w7 ⟨rfl, hu⟩; have HT := Lib.hid (HS.out.upd' hu); clear HS hu; have HS := HT; clear HT
  (try dsimp only)
  (try simp only [Act.put, nA, nB, nC])
  clear hHeld
  refine hK.out _ _ ?_ (fun hHeld => ?_)
  · exact ⟨by rw [← HG.out.1.1]; exact HS.out.b.cell (by decide), by rw [← HG.out.1.2]; exact HS.out.b.cell (by decide), by rw [← HG.out.2.1]; exact HS.out.b.cell (by decide), by rw [← HG.out.2.2]; exact HS.out.b.cell (by decide)⟩
  clear hK K
  (try simp only [Act.put, nA, nB, nC])
  refine wpAnyM_take 46 (v := ?_) rfl (by kernel_rfl) (fun _ _ _ h => h) (Or.inl ⟨by rfl, ?_⟩) (by assumption) ?_
  rotate_left
  · (intro wx hSw; refine Eq.trans (run_build_q4 (.tmp 27) (.tmp 38) (.tmp 49) (.tmp 60) (by rfl) (by rfl) (by rfl) (by rfl) (by rfl)) ?_; with_reducible rfl)
  (try simp only [Act.put, nA, nB, nC])
  refine wpAnyM_one 47 rfl (by kernel_rfl) (fun K hK => ?_)
  go_simp; rw [if_pos (arrv_size _ _), run_storeCells_row _ HS.out.r]; go_simp
  refine hK.out _ _ (.inl (by kernel_rfl)) (fun _ => ?_)
  clear hK K
  (try simp only [Act.put, nA, nB, nC])
  refine wpAnyM_done (by kernel_rfl) ?_ _
  have HV := Lib.hid (show arrv 4 (q4 (dotV 30 F (q4 g0 (-g1) (-g2) (-g3)) 4) (dotV 30 F (q4 g1 g0 g3 (-g2)) 4) (dotV 30 F (q4 g2 (-g3) g0 g1) 4) (dotV 30 F (q4 g3 g2 (-g1) g0) 4)) = arrv 4 (qmV A B) by
    rw [← HE.out.1, ← q4_eq (fun r => dotV 30 F (qmR G r) 4), ← HG.out.1.1, ← HG.out.1.2, ← HG.out.2.1, ← HG.out.2.2]; rfl)
  have r1 := HS.out.r.setRow (q4 (dotV 30 F (q4 g0 (-g1) (-g2) (-g3)) 4) (dotV 30 F (q4 g1 g0 g3 (-g2)) 4) (dotV 30 F (q4 g2 (-g3) g0 g1) 4) (dotV 30 F (q4 g3 g2 (-g1) g0) 4))
  have B1 := HS.out.upd.then' (below_row (Below.refl _ _) (show w.heap.size ≤ w.heap.size + 1 + 1 + 1 by omega) (arrv 4 (q4 (dotV 30 F (q4 g0 (-g1) (-g2) (-g3)) 4) (dotV 30 F (q4 g1 g0 g3 (-g2)) 4) (dotV 30 F (q4 g2 (-g3) g0 g1) 4) (dotV 30 F (q4 g3 g2 (-g1) g0) 4))))
  rw [HV.out] at r1 B1 ⊢
  have B2 : Upd c (h || qmH A B) w (w7.setRow (w.heap.size + 1 + 1 + 1) (arrv 4 (qmV A B))) := by
    rw [← HE.out.2]
    rw [show (H1 || orB (fun r => dotH 30 F (qmR G r) 4) 4) = (H1 || dotH 30 F (q4 g0 (-g1) (-g2) (-g3)) 4 || dotH 30 F (q4 g1 g0 g3 (-g2)) 4 || dotH 30 F (q4 g2 (-g3) g0 g1) 4 || dotH 30 F (q4 g3 g2 (-g1) g0) 4) by rw [← HG.out.1.1, ← HG.out.1.2, ← HG.out.2.1, ← HG.out.2.2]; simp [orB, qmR, Bool.or_assoc]]
    exact B1
  generalize w7.setRow (w.heap.size + 1 + 1 + 1) (arrv 4 (qmV A B)) = W8 at *
  go_wp2_with fail
  refine bodyPost_ret (results_cell_row Try.results44 _ _ (w.heap.size + 1 + 1 + 1) 40 (arrv 4 (qmV A B)) (0, 0) _ rfl (by rw [← HV.out]; exact r1) Try.underlying40 rfl (iqt.trans (by rw [arrv_size]))) rfl ⟨rfl, B2⟩
end Go.Proofs.Ytanmddenleffaaa
namespace Go.Proofs.Ytanmddenleffaaa
open Go.RowKit
set_option maxRecDepth 100000
theorem ap_start (c : Addr) (h : Bool) (M V : Nat → Int) (w : World) (hc : w.cell? c = some (.bool h)) (hf : w.frozen? c = false) :
    ApR c h M V (fun _ => 0) w ((((w.alloc (.cells (arrv 9 M) 45)).alloc (.cells (arrv 3 V) 41)).alloc (.cells #[.int .i64 0, .int .i64 0, .int .i64 0] 41)).alloc (.cells #[.int .i64 0, .int .i64 0, .int .i64 0] 41)) := by
  have hcb := World.block_lt_of_cell? w c hc
  have bl : Below w.heap.size w ((((w.alloc (.cells (arrv 9 M) 45)).alloc (.cells (arrv 3 V) 41)).alloc (.cells #[.int .i64 0, .int .i64 0, .int .i64 0] 41)).alloc (.cells #[.int .i64 0, .int .i64 0, .int .i64 0] 41)) := by (repeat (first | with_reducible exact Below.refl _ _ | with_reducible apply Below.drew | (with_reducible refine below_drewN ?_ _) | (with_reducible refine Below.alloc ?_ (by (try simp) <;> omega) _) | (with_reducible refine Below.setCell ?_ (by (try simp) <;> omega) _)))
  refine ⟨Upd.then (Upd.refl hc) bl, ?_, ?_, ?_, ?_, (bl.cell hcb).trans hc, (bl.frozen hcb).trans hf, hcb⟩
  · exact (((Blk.new w _ 9 M).alloc _).alloc _).alloc _
  · exact ((Blk.new1 w _ _ 3 V).alloc _).alloc _
  · rw [zv3]; exact (blk_new2 w _ _ _ 3 _).alloc _
  · rw [zv3]; exact blk_new3 w _ _ _ _ 3 _
theorem m9u : Try.prog.underlying 45 = some (.array (Try.prog.arrayLen 45) (Try.prog.elem 45)) := by kernel_rfl
theorem m9len : Try.prog.arrayLen 45 = 9 := by kernel_rfl
open Go in
/-- m[l:h] of a matrix. -/
theorem run_slice_m9 {o : Oper} {ev : Operand → Value} {w : World} (x y z : Operand) (ho : o.op = .slice 45 x (some y) (some z) none) (g : Nat) (hx : ev x = .pointer (some ⟨g, 0, none⟩))
    (l h : Nat) (hy : ev y = .int .i64 (l : Int)) (hz : ev z = .int .i64 (h : Int)) (hlh : l ≤ h) (hh : h ≤ 9) (hl : l < 9) : (execOp ev o).run Try.prog w = .ok (.value (.slice (some ⟨g, l, none⟩) (h - l) (9 - l))) w := by
  have h := run_sliceAt_array_lh (P := Try.prog) w 45 ⟨g, 0, none⟩ m9u .i64 .i64 (l : Int) (h : Int) (by omega) (by omega) (by rw [m9len]; omega)
  unfold execOp
  simp only [ho, hx, hy, hz, Option.map_some, Option.map_none]
  rw [Sem.run_bind, h]
  have hs : (sizeOf (Try.prog.elem 45)).run Try.prog w = .ok 1 w := by rw [show Try.prog.elem 45 = 2 from by kernel_rfl]; simp [go_sem]
  rw [hs, m9len]
  simp [slicedAt, go_sem]
  omega
def apK (M V : Nat → Int) (k : Nat) : Nat → Int := fun i => if i < k then apV M V i else 0
def apHK (M V : Nat → Int) (k : Nat) : Bool := orB (fun i => dotH 30 (fun k => M (3 * i + k)) V 3) k
set_option maxHeartbeats 8000000 in
theorem apply_any (c : Addr) (h : Bool) (M V : Nat → Int) (w : World) (hc : w.cell? c = some (.bool h)) (hf : w.frozen? c = false) :
    Calls Try.prog 14 #[.pointer (some c), .agg (arrv 9 M), .agg (arrv 3 V)] w fun e w' => e = .returned (.agg (arrv 3 (apV M V))) ∧ Upd c (h || apH M V) w w' := by
  have S0 := Lib.hid (ap_start c h M V w hc hf)
  clear hc hf
  go_enter Try.func14, Try.ntmps14
  go_upto_region 2 with fail
  generalize (((w.alloc (.cells (arrv 9 M) 45)).alloc (.cells (arrv 3 V) 41)).alloc (.cells #[.int .i64 0, .int .i64 0, .int .i64 0] 41)).alloc (.cells #[.int .i64 0, .int .i64 0, .int .i64 0] 41) = W0 at *
  go_wp2_with fail
  go_loopw [9] (fun i wr => ∃ k : Nat, k ≤ 3 ∧ i = .int .i64 k ∧ Hid (ApR c (h || apHK M V k) M V (apK M V k) w wr)) (fun i _ => 3 - (intOf i).toNat)
  case atStart => exact ⟨0, by omega, rfl, Lib.hid (S0.out.congr (by simp [orB, apHK]) fun i hi => by simp [apK])⟩
  case round =>
    obtain ⟨k, hk, rfl, R⟩ := hrel
    clear S0
    by_cases hlt : k < 3
    · obtain rfl | rfl | rfl : k = 0 ∨ k = 1 ∨ k = 2 := by omega
      · have HK := Lib.hid (show (h || apHK M V 1) = (h || apHK M V 0 || dotH 30 (fun j => M (0 + j)) V 3) by simp [apHK, orB, Bool.or_assoc])
        have HA := Lib.hid (show apV M V 0 = dotV 30 (fun j => M (0 + j)) V 3 from rfl)
        obtain ⟨H, hH⟩ : ∃ x, (h || apHK M V 0) = x := ⟨_, rfl⟩
        rw [hH] at R HK
        have DC := Lib.hid (fun (x : World) (s : ApR c H M V (apK M V 0) w x) => dot_any c H 30 (fun j => M (0 + j)) V w.heap.size 0 9 (w.heap.size + 1) 0 3 3 x s.cell s.free (by decide) (by decide) (by decide) (fun i hi => s.m.cell (by omega)) (fun i hi => by rw [Nat.zero_add]; exact s.v.cell hi))
        obtain ⟨D, hD⟩ : ∃ x, dotV 30 (fun j => M (0 + j)) V 3 = x := ⟨_, rfl⟩
        rw [hD] at HA DC
        obtain ⟨H2, hH2⟩ : ∃ x, (H || dotH 30 (fun j => M (0 + j)) V 3) = x := ⟨_, rfl⟩
        rw [hH2] at HK DC
        clear hH hD hH2
        go_upto_region 5 with fail
        have HS := Lib.hid R.out.drew
        clear R
        refine wp_region_M (fun _ => True) 11 (by kernel_rfl) ?_ (fun hHeld => ?_)
        · trivial
        refine wpAnyM_take 0 (v := ?_) rfl (by kernel_rfl) (fun _ _ _ h => h) (Or.inl ⟨by rfl, ?_⟩) (by assumption) ?_
        rotate_left
        · (intro wx hSw; (try dsimp only at hSw); go_simp; (try with_reducible rfl))
        (try simp only [Act.put, nA, nB, nC])
        refine wpAnyM_take 1 (v := ?_) rfl (by kernel_rfl) (fun _ _ _ h => h) (Or.inl ⟨by rfl, ?_⟩) (by assumption) ?_
        rotate_left
        · (intro wx hSw; (try dsimp only at hSw); go_simp; (try with_reducible rfl))
        (try simp only [Act.put, nA, nB, nC])
        refine wpAnyM_take 2 (v := ?_) rfl (by kernel_rfl) (fun _ _ _ h => h) (Or.inl ⟨by rfl, ?_⟩) (by assumption) ?_
        rotate_left
        · (intro wx hSw; (try dsimp only at hSw); go_simp; (try with_reducible rfl))
        (try simp only [Act.put, nA, nB, nC])
        refine wpAnyM_take 3 (v := ?_) rfl (by kernel_rfl) (fun _ _ _ h => h) (Or.inl ⟨by rfl, ?_⟩) (by assumption) ?_
        rotate_left
        · (intro wx hSw; (try dsimp only at hSw); go_simp; (try with_reducible rfl))
        (try simp only [Act.put, nA, nB, nC])
        refine wpAnyM_take 4 (v := ?_) rfl (by kernel_rfl) (fun _ _ _ h => h) (Or.inl ⟨by rfl, ?_⟩) (by assumption) ?_
        rotate_left
        · (intro wx hSw; (try dsimp only at hSw); go_simp; (try with_reducible rfl))
        (try simp only [Act.put, nA, nB, nC])
        refine wpAnyM_take 5 (v := ?_) rfl (by kernel_rfl) (fun _ _ _ h => h) (Or.inl ⟨by rfl, ?_⟩) (by assumption) ?_
        rotate_left
        · (intro wx hSw; (try dsimp only at hSw); go_simp; (try with_reducible rfl))
        (try simp only [Act.put, nA, nB, nC])
        refine wpAnyM_take 6 (v := ?_) rfl (by kernel_rfl) (fun _ _ _ h => h) (Or.inl ⟨by rfl, ?_⟩) (by assumption) ?_
        rotate_left
        · (intro wx hSw; (try dsimp only at hSw); go_simp; (try with_reducible rfl))
        (try simp only [Act.put, nA, nB, nC])
        refine wpAnyM_take 7 (v := ?_) rfl (by kernel_rfl) (fun _ _ _ h => h) (Or.inl ⟨by rfl, ?_⟩) (by assumption) ?_
        rotate_left
        · (intro wx hSw; refine Eq.trans (run_slice_m9 (.tmp 4) (.tmp 15) (.tmp 18) (by rfl) w.heap.size (by rfl) 0 3 (by first | rfl | (simp; done)) (by first | rfl | (simp; done)) (by decide) (by decide) (by decide)) ?_; with_reducible rfl)
        (try simp only [Act.put, nA, nB, nC])
        refine wpAnyM_take 8 (v := ?_) rfl (by kernel_rfl) (fun _ _ _ h => h) (Or.inl ⟨by rfl, ?_⟩) (by assumption) ?_
        rotate_left
        · (intro wx hSw; (try dsimp only at hSw); go_simp; (try with_reducible rfl))
        (try simp only [Act.put, nA, nB, nC])
        refine wpAnyM_oneS 9 rfl (by kernel_rfl) (fun K hK => ?_)
        go_simp
        (refine (DC.out _ HS.out).mono ?_); rintro e w1 ⟨rfl, hu⟩; have HT := Lib.hid (HS.out.upd' hu); clear HS hu; have HS := HT; clear HT; have af := HS.out.o.free 0; have ac := HS.out.o.cell (i := 0) (by decide)
        (try dsimp only)
        (try simp only [Act.put, nA, nB, nC])
        clear hHeld
        refine hK.out _ _ ?_ (fun hHeld => ?_)
        · trivial
        clear hK K
        (try simp only [Act.put, nA, nB, nC])
        refine wpAnyM_take 10 (v := ?_) rfl (by kernel_rfl) (fun _ _ _ h => h) (Or.inl ⟨by rfl, ?_⟩) (by assumption) ?_
        rotate_left
        · (intro wx hSw; (try dsimp only at hSw); go_simp; (try with_reducible rfl))
        (try simp only [Act.put, nA, nB, nC])
        refine wpAnyM_one 11 rfl (by kernel_rfl) (fun K hK => ?_)
        go_simp
        refine hK.out _ _ (.inl (by kernel_rfl)) (fun _ => ?_)
        clear hK K
        (try simp only [Act.put, nA, nB, nC])
        refine wpAnyM_done (by kernel_rfl) ?_ _
        clear af ac
        go_wp2_with fail
        go_roundw
        case rel =>
          refine ⟨1, by omega, by go_num, Lib.hid ((HS.out.set 0 D).congr HK.out.symm fun i hi => ?_)⟩
          simp only [Go.Proofs.Ytanmddenleffaaa.upd, apK]
          by_cases h1 : i = 0
          · subst h1; rw [if_pos rfl, if_pos (by omega), HA.out]
          · rw [if_neg h1]
            by_cases h2 : i < 0
            · rw [if_pos h2, if_pos (by omega)]
            · rw [if_neg h2, if_neg (by omega)]
        case measure => simp [intOf]
      · have HK := Lib.hid (show (h || apHK M V 2) = (h || apHK M V 1 || dotH 30 (fun j => M (3 + j)) V 3) by simp [apHK, orB, Bool.or_assoc])
        have HA := Lib.hid (show apV M V 1 = dotV 30 (fun j => M (3 + j)) V 3 from rfl)
        obtain ⟨H, hH⟩ : ∃ x, (h || apHK M V 1) = x := ⟨_, rfl⟩
        rw [hH] at R HK
        have DC := Lib.hid (fun (x : World) (s : ApR c H M V (apK M V 1) w x) => dot_any c H 30 (fun j => M (3 + j)) V w.heap.size 3 6 (w.heap.size + 1) 0 3 3 x s.cell s.free (by decide) (by decide) (by decide) (fun i hi => s.m.cell (by omega)) (fun i hi => by rw [Nat.zero_add]; exact s.v.cell hi))
        obtain ⟨D, hD⟩ : ∃ x, dotV 30 (fun j => M (3 + j)) V 3 = x := ⟨_, rfl⟩
        rw [hD] at HA DC
        obtain ⟨H2, hH2⟩ : ∃ x, (H || dotH 30 (fun j => M (3 + j)) V 3) = x := ⟨_, rfl⟩
        rw [hH2] at HK DC
        clear hH hD hH2
        go_upto_region 5 with fail
        have HS := Lib.hid R.out.drew
        clear R
        refine wp_region_M (fun _ => True) 11 (by kernel_rfl) ?_ (fun hHeld => ?_)
        · trivial
        refine wpAnyM_take 0 (v := ?_) rfl (by kernel_rfl) (fun _ _ _ h => h) (Or.inl ⟨by rfl, ?_⟩) (by assumption) ?_
        rotate_left
        · (intro wx hSw; (try dsimp only at hSw); go_simp; (try with_reducible rfl))
        (try simp only [Act.put, nA, nB, nC])
        refine wpAnyM_take 1 (v := ?_) rfl (by kernel_rfl) (fun _ _ _ h => h) (Or.inl ⟨by rfl, ?_⟩) (by assumption) ?_
        rotate_left
        · (intro wx hSw; (try dsimp only at hSw); go_simp; (try with_reducible rfl))
        (try simp only [Act.put, nA, nB, nC])
        refine wpAnyM_take 2 (v := ?_) rfl (by kernel_rfl) (fun _ _ _ h => h) (Or.inl ⟨by rfl, ?_⟩) (by assumption) ?_
        rotate_left
        · (intro wx hSw; (try dsimp only at hSw); go_simp; (try with_reducible rfl))
        (try simp only [Act.put, nA, nB, nC])
        refine wpAnyM_take 3 (v := ?_) rfl (by kernel_rfl) (fun _ _ _ h => h) (Or.inl ⟨by rfl, ?_⟩) (by assumption) ?_
        rotate_left
        · (intro wx hSw; (try dsimp only at hSw); go_simp; (try with_reducible rfl))
        (try simp only [Act.put, nA, nB, nC])
        refine wpAnyM_take 4 (v := ?_) rfl (by kernel_rfl) (fun _ _ _ h => h) (Or.inl ⟨by rfl, ?_⟩) (by assumption) ?_
        rotate_left
        · (intro wx hSw; (try dsimp only at hSw); go_simp; (try with_reducible rfl))
        (try simp only [Act.put, nA, nB, nC])
        refine wpAnyM_take 5 (v := ?_) rfl (by kernel_rfl) (fun _ _ _ h => h) (Or.inl ⟨by rfl, ?_⟩) (by assumption) ?_
        rotate_left
        · (intro wx hSw; (try dsimp only at hSw); go_simp; (try with_reducible rfl))
        (try simp only [Act.put, nA, nB, nC])
        refine wpAnyM_take 6 (v := ?_) rfl (by kernel_rfl) (fun _ _ _ h => h) (Or.inl ⟨by rfl, ?_⟩) (by assumption) ?_
        rotate_left
        · (intro wx hSw; (try dsimp only at hSw); go_simp; (try with_reducible rfl))
        (try simp only [Act.put, nA, nB, nC])
        refine wpAnyM_take 7 (v := ?_) rfl (by kernel_rfl) (fun _ _ _ h => h) (Or.inl ⟨by rfl, ?_⟩) (by assumption) ?_
        rotate_left
        · (intro wx hSw; refine Eq.trans (run_slice_m9 (.tmp 4) (.tmp 15) (.tmp 18) (by rfl) w.heap.size (by rfl) 3 6 (by first | rfl | (simp; done)) (by first | rfl | (simp; done)) (by decide) (by decide) (by decide)) ?_; with_reducible rfl)
        (try simp only [Act.put, nA, nB, nC])
        refine wpAnyM_take 8 (v := ?_) rfl (by kernel_rfl) (fun _ _ _ h => h) (Or.inl ⟨by rfl, ?_⟩) (by assumption) ?_
        rotate_left
        · (intro wx hSw; (try dsimp only at hSw); go_simp; (try with_reducible rfl))
        (try simp only [Act.put, nA, nB, nC])
        refine wpAnyM_oneS 9 rfl (by kernel_rfl) (fun K hK => ?_)
        go_simp
        (refine (DC.out _ HS.out).mono ?_); rintro e w1 ⟨rfl, hu⟩; have HT := Lib.hid (HS.out.upd' hu); clear HS hu; have HS := HT; clear HT; have af := HS.out.o.free 1; have ac := HS.out.o.cell (i := 1) (by decide)
        (try dsimp only)
        (try simp only [Act.put, nA, nB, nC])
        clear hHeld
        refine hK.out _ _ ?_ (fun hHeld => ?_)
        · trivial
        clear hK K
        (try simp only [Act.put, nA, nB, nC])
        refine wpAnyM_take 10 (v := ?_) rfl (by kernel_rfl) (fun _ _ _ h => h) (Or.inl ⟨by rfl, ?_⟩) (by assumption) ?_
        rotate_left
        · (intro wx hSw; (try dsimp only at hSw); go_simp; (try with_reducible rfl))
        (try simp only [Act.put, nA, nB, nC])
        refine wpAnyM_one 11 rfl (by kernel_rfl) (fun K hK => ?_)
        go_simp
        refine hK.out _ _ (.inl (by kernel_rfl)) (fun _ => ?_)
        clear hK K
        (try simp only [Act.put, nA, nB, nC])
        refine wpAnyM_done (by kernel_rfl) ?_ _
        clear af ac
        go_wp2_with fail
        go_roundw
        case rel =>
          refine ⟨2, by omega, by go_num, Lib.hid ((HS.out.set 1 D).congr HK.out.symm fun i hi => ?_)⟩
          simp only [Go.Proofs.Ytanmddenleffaaa.upd, apK]
          by_cases h1 : i = 1
          · subst h1; rw [if_pos rfl, if_pos (by omega), HA.out]
          · rw [if_neg h1]
            by_cases h2 : i < 1
            · rw [if_pos h2, if_pos (by omega)]
            · rw [if_neg h2, if_neg (by omega)]
        case measure => simp [intOf]
      · have HK := Lib.hid (show (h || apHK M V 3) = (h || apHK M V 2 || dotH 30 (fun j => M (6 + j)) V 3) by simp [apHK, orB, Bool.or_assoc])
        have HA := Lib.hid (show apV M V 2 = dotV 30 (fun j => M (6 + j)) V 3 from rfl)
        obtain ⟨H, hH⟩ : ∃ x, (h || apHK M V 2) = x := ⟨_, rfl⟩
        rw [hH] at R HK
        have DC := Lib.hid (fun (x : World) (s : ApR c H M V (apK M V 2) w x) => dot_any c H 30 (fun j => M (6 + j)) V w.heap.size 6 3 (w.heap.size + 1) 0 3 3 x s.cell s.free (by decide) (by decide) (by decide) (fun i hi => s.m.cell (by omega)) (fun i hi => by rw [Nat.zero_add]; exact s.v.cell hi))
        obtain ⟨D, hD⟩ : ∃ x, dotV 30 (fun j => M (6 + j)) V 3 = x := ⟨_, rfl⟩
        rw [hD] at HA DC
        obtain ⟨H2, hH2⟩ : ∃ x, (H || dotH 30 (fun j => M (6 + j)) V 3) = x := ⟨_, rfl⟩
        rw [hH2] at HK DC
        clear hH hD hH2
        go_upto_region 5 with fail
        have HS := Lib.hid R.out.drew
        clear R
        refine wp_region_M (fun _ => True) 11 (by kernel_rfl) ?_ (fun hHeld => ?_)
        · trivial
        refine wpAnyM_take 0 (v := ?_) rfl (by kernel_rfl) (fun _ _ _ h => h) (Or.inl ⟨by rfl, ?_⟩) (by assumption) ?_
        rotate_left
        · (intro wx hSw; (try dsimp only at hSw); go_simp; (try with_reducible rfl))
        (try simp only [Act.put, nA, nB, nC])
        refine wpAnyM_take 1 (v := ?_) rfl (by kernel_rfl) (fun _ _ _ h => h) (Or.inl ⟨by rfl, ?_⟩) (by assumption) ?_
        rotate_left
        · (intro wx hSw; (try dsimp only at hSw); go_simp; (try with_reducible rfl))
        (try simp only [Act.put, nA, nB, nC])
        refine wpAnyM_take 2 (v := ?_) rfl (by kernel_rfl) (fun _ _ _ h => h) (Or.inl ⟨by rfl, ?_⟩) (by assumption) ?_
        rotate_left
        · (intro wx hSw; (try dsimp only at hSw); go_simp; (try with_reducible rfl))
        (try simp only [Act.put, nA, nB, nC])
        refine wpAnyM_take 3 (v := ?_) rfl (by kernel_rfl) (fun _ _ _ h => h) (Or.inl ⟨by rfl, ?_⟩) (by assumption) ?_
        rotate_left
        · (intro wx hSw; (try dsimp only at hSw); go_simp; (try with_reducible rfl))
        (try simp only [Act.put, nA, nB, nC])
        refine wpAnyM_take 4 (v := ?_) rfl (by kernel_rfl) (fun _ _ _ h => h) (Or.inl ⟨by rfl, ?_⟩) (by assumption) ?_
        rotate_left
        · (intro wx hSw; (try dsimp only at hSw); go_simp; (try with_reducible rfl))
        (try simp only [Act.put, nA, nB, nC])
        refine wpAnyM_take 5 (v := ?_) rfl (by kernel_rfl) (fun _ _ _ h => h) (Or.inl ⟨by rfl, ?_⟩) (by assumption) ?_
        rotate_left
        · (intro wx hSw; (try dsimp only at hSw); go_simp; (try with_reducible rfl))
        (try simp only [Act.put, nA, nB, nC])
        refine wpAnyM_take 6 (v := ?_) rfl (by kernel_rfl) (fun _ _ _ h => h) (Or.inl ⟨by rfl, ?_⟩) (by assumption) ?_
        rotate_left
        · (intro wx hSw; (try dsimp only at hSw); go_simp; (try with_reducible rfl))
        (try simp only [Act.put, nA, nB, nC])
        refine wpAnyM_take 7 (v := ?_) rfl (by kernel_rfl) (fun _ _ _ h => h) (Or.inl ⟨by rfl, ?_⟩) (by assumption) ?_
        rotate_left
        · (intro wx hSw; refine Eq.trans (run_slice_m9 (.tmp 4) (.tmp 15) (.tmp 18) (by rfl) w.heap.size (by rfl) 6 9 (by first | rfl | (simp; done)) (by first | rfl | (simp; done)) (by decide) (by decide) (by decide)) ?_; with_reducible rfl)
        (try simp only [Act.put, nA, nB, nC])
        refine wpAnyM_take 8 (v := ?_) rfl (by kernel_rfl) (fun _ _ _ h => h) (Or.inl ⟨by rfl, ?_⟩) (by assumption) ?_
        rotate_left
        · (intro wx hSw; (try dsimp only at hSw); go_simp; (try with_reducible rfl))
        (try simp only [Act.put, nA, nB, nC])
        refine wpAnyM_oneS 9 rfl (by kernel_rfl) (fun K hK => ?_)
        go_simp
        (refine (DC.out _ HS.out).mono ?_); rintro e w1 ⟨rfl, hu⟩; have HT := Lib.hid (HS.out.upd' hu); clear HS hu; have HS := HT; clear HT; have af := HS.out.o.free 2; have ac := HS.out.o.cell (i := 2) (by decide)
        (try dsimp only)
        (try simp only [Act.put, nA, nB, nC])
        clear hHeld
        refine hK.out _ _ ?_ (fun hHeld => ?_)
        · trivial
        clear hK K
        (try simp only [Act.put, nA, nB, nC])
        refine wpAnyM_take 10 (v := ?_) rfl (by kernel_rfl) (fun _ _ _ h => h) (Or.inl ⟨by rfl, ?_⟩) (by assumption) ?_
        rotate_left
        · (intro wx hSw; (try dsimp only at hSw); go_simp; (try with_reducible rfl))
        (try simp only [Act.put, nA, nB, nC])
        refine wpAnyM_one 11 rfl (by kernel_rfl) (fun K hK => ?_)
        go_simp
        refine hK.out _ _ (.inl (by kernel_rfl)) (fun _ => ?_)
        clear hK K
        (try simp only [Act.put, nA, nB, nC])
        refine wpAnyM_done (by kernel_rfl) ?_ _
        clear af ac
        go_wp2_with fail
        go_roundw
        case rel =>
          refine ⟨3, by omega, by go_num, Lib.hid ((HS.out.set 2 D).congr HK.out.symm fun i hi => ?_)⟩
          simp only [Go.Proofs.Ytanmddenleffaaa.upd, apK]
          by_cases h1 : i = 2
          · subst h1; rw [if_pos rfl, if_pos (by omega), HA.out]
          · rw [if_neg h1]
            by_cases h2 : i < 2
            · rw [if_pos h2, if_pos (by omega)]
            · rw [if_neg h2, if_neg (by omega)]
        case measure => simp [intOf]
    · have hk3 : k = 3 := by omega
      subst hk3
      have HE := Lib.hid (show apHK M V 3 = apH M V from rfl)
      have R2 := R.out.congr rfl (G := apV M V) fun i hi => by simp only [apK]; rw [if_pos hi]
      rw [HE.out] at R2
      have U := Lib.hid R2.upd
      have B0 := R2.o
      have B1 := R2.r
      clear R R2
      rw [show ((3 : Nat) : Int) = 3 from rfl]
      go_wp2_with (first | (refine wpList_load_row rfl 41 _ rfl (w.heap.size + 1 + 1 + 1) rfl 41 _ (0, 0) _ (B0) Try.underlying41 rfl (iv3.trans (by rw [arrv_size])) ?_) | (refine wpList_store_row rfl 41 _ _ rfl (w.heap.size + 1 + 1) _ rfl rfl 41 _ (B1) (iv3.trans (by rw [arrv_size])) (by rw [arrv_size, arrv_size]) (oneCell_arrv _ _) ?_))
      refine bodyPost_ret (results_cell_row Try.results14 _ _ (w.heap.size + 1 + 1) 41 (arrv 3 (apV M V)) (0, 0) _ rfl (setRow_heap _ _ _ _ _ _ B1) Try.underlying41 rfl (iv3.trans (by rw [arrv_size]))) rfl ⟨rfl, ?_⟩
      exact U.out.then' (below_row (Below.refl _ _) (by omega) _)
end Go.Proofs.Ytanmddenleffaaa
namespace Go.Proofs.Ytanmddenleffaaa
def fyM (a : Int) : Int := mulV (wrpV a) 536870912 30
def fyV (a : Int) : Nat → Int := uniV (q4 (cosV (fyM a)) 0 0 (sinV (fyM a)))
def fyH (a : Int) : Bool := mulH (wrpV a) 536870912 30 || cosH (fyM a) || sinH (fyM a) || uniH (q4 (cosV (fyM a)) 0 0 (sinV (fyM a)))
end Go.Proofs.Ytanmddenleffaaa
namespace Go.Proofs.Ytanmddenleffaaa
open Go.RowKit
set_option maxRecDepth 100000
open Go in
theorem run_build_q4' {o : Oper} {ev : Operand → Value} {w : World} (x u : Operand) (ho : o.op = .build 40 #[(0, x), (3, u)]) {a d : Int} (hx : ev x = .int .i64 a) (hu : ev u = .int .i64 d) :
    (execOp ev o).run Try.prog w = .ok (.value (.agg (arrv 4 (q4 a 0 0 d)))) w := by
  unfold execOp
  simp only [ho, List.map_toArray, List.map_cons, List.map_nil, hx, hu]
  kernel_rfl
end Go.Proofs.Ytanmddenleffaaa
namespace Go.Proofs.Ytanmddenleffaaa
open Go.RowKit
open Go
theorem own_snoc {n : Nat} {L : Nat → Int} {x : Int} : ints n L ++ [.int .i64 x] = ints (n + 1) (upd L n x) := by
  rw [ints_succ]
  congr 1
  · exact ints_congr fun i hi => by simp [upd, show ¬ i = n by omega]
  · simp [upd]
theorem run_app1 {w : World} (B : Nat) {v : Value} {n : Nat} {L : Nat → Int} (hown : Own w B 2 v n L) (nb c : Nat) (x : Int) (hx : w.cell? ⟨nb, 0, none⟩ = some (.int .i64 x)) (hn : n ≤ 1000000) (hB : B ≤ w.heap.size) (ty : TypeId) (H : Nat) (hH : w.heap.size = H) :
    ∃ g cap w', (Builtin.append_ #[50, 50] ty #[v, .slice (some ⟨nb, 0, none⟩) 1 c]).run Try.prog w = .ok (.slice (some ⟨g, 0, none⟩) (n + 1) cap) w' ∧
      Own w' B 2 (.slice (some ⟨g, 0, none⟩) (n + 1) cap) (n + 1) (upd L n x) ∧ w.grownBy w' v.ownBlock ∧ (v.ownBlock = some g ∨ g = H) ∧ g < w'.heap.size := by
  obtain ⟨i, hi, hz, hs, hb⟩ := info_i64'
  obtain ⟨g, cap, w', h1, h2, h3, h4, h5⟩ := run_append_lies (P := Try.prog) w 50 ty B 2 i (.int .i64 0) 1 8 Try.underlying50 hi hz hs hb rfl (by decide) v n (ints n L) hown ⟨nb, 0, none⟩ 1 c [.int .i64 x] rfl
    (fun j u hu => by
      have hj : j = 0 := by
        have := List.getElem?_eq_some_iff.1 hu
        obtain ⟨h, _⟩ := this
        simpa using h
      subst hj
      simp at hu
      subst hu
      simpa [Addr.add] using hx) (fun u hu => by rw [List.mem_singleton] at hu; subst hu; rfl) (by decide) (by unfold maxLen; omega) (by omega) hB H hH
  exact ⟨g, cap, w', h1, by unfold Own; rw [← own_snoc]; exact h2, h3, h4, h5⟩
theorem wp_app1 {w : World} {o : Oper} {a : Act} {K : Act → World → Prop} {Q : Exit → Act → World → Prop} (s x : Operand)
    (ho : o.op = .call { callee := .builtin .append, args := #[s, x], argTypes := #[50, 50] })
    (B : Nat) {v : Value} {n : Nat} {L : Nat → Int} (hs : a.eval s = v) (hown : Own w B 2 v n L) (nb c : Nat) (y : Int) (hx : a.eval x = .slice (some ⟨nb, 0, none⟩) 1 c) (hy : w.cell? ⟨nb, 0, none⟩ = some (.int .i64 y)) (hn : n ≤ 1000000) (hB : B ≤ w.heap.size) (H : Nat) (hH : w.heap.size = H)
    (h : ∀ g cap w', Own w' B 2 (.slice (some ⟨g, 0, none⟩) (n + 1) cap) (n + 1) (upd L n y) → w.grownBy w' v.ownBlock → (v.ownBlock = some g ∨ g = H) → g < w'.heap.size → K (a.put o.dst (.slice (some ⟨g, 0, none⟩) (n + 1) cap)) w') : o.wp Try.prog a w K Q := by
  obtain ⟨g, cap, w', hr, h2, h3, h4, h5⟩ := run_app1 B hown nb c y hy hn hB o.type H hH
  unfold Oper.wp execOp
  simp only [ho, resolve, invoke, builtin, Sem.run_bind, Sem.run_pure, Result.andThen_ok, List.map_toArray, List.map_cons, List.map_nil, hs, hx, hr]
  exact h g cap w' h2 h3 h4 h5
theorem wpList_app1 {w : World} {ops : Array Oper} {rest : List Oper} {o : Oper} {a : Act} {Q : Exit → Act → World → Prop} (hgd : o.guard = none) (s x : Operand)
    (ho : o.op = .call { callee := .builtin .append, args := #[s, x], argTypes := #[50, 50] })
    (B : Nat) {v : Value} {n : Nat} {L : Nat → Int} (hs : a.eval s = v) (hown : Own w B 2 v n L) (nb c : Nat) (y : Int) (hx : a.eval x = .slice (some ⟨nb, 0, none⟩) 1 c) (hy : w.cell? ⟨nb, 0, none⟩ = some (.int .i64 y)) (hn : n ≤ 1000000) (hB : B ≤ w.heap.size) (H : Nat) (hH : w.heap.size = H)
    (h : ∀ g cap w', Own w' B 2 (.slice (some ⟨g, 0, none⟩) (n + 1) cap) (n + 1) (upd L n y) → w.grownBy w' v.ownBlock → (v.ownBlock = some g ∨ g = H) → g < w'.heap.size → wpList Try.prog ops Q rest (a.put o.dst (.slice (some ⟨g, 0, none⟩) (n + 1) cap)) w') : wpList Try.prog ops Q (o :: rest) a w :=
  wpList_plain hgd fun _ hK => wp_app1 s x ho B hs hown nb c y hx hy hn hB H hH fun g cap w' h2 h3 h4 h5 => hK _ _ (h g cap w' h2 h3 h4 h5)
end Go.Proofs.Ytanmddenleffaaa
namespace Go.Proofs.Ytanmddenleffaaa
open Go.RowKit
set_option maxRecDepth 100000
open Go in
theorem run_load_mid3 {P : Program} {o : Oper} {ev : Operand → Value} {w : World} (ty : TypeId) (x : Operand) (ho : o.op = .load ty x) (b off n : Nat) (hx : ev x = .pointer (some ⟨b, off, none⟩)) (f : Nat → Int)
    (hc : ∀ j, j < n → w.cell? ⟨b, off + j, none⟩ = some (.int .i64 (f j))) (d : TypeDesc) (hu : P.underlying ty = some d) (hd : d.isRow = true) (hi : (P.info? ty).map (·.size) = some n) :
    (execOp ev o).run P w = .ok (.value (.agg (arrv n f))) w := by
  have h := run_loadVar_mid (P := P) w b off ty (arrv n f).toList d (fun j v hv => by
    have hj : j < n := by
      have := (List.getElem?_eq_some_iff.1 hv).1
      simpa [arrv_size] using this
    rw [Array.getElem?_toList, arrv_get hj] at hv
    injection hv with hv
    rw [← hv]; exact hc j hj) hu hd (by rw [hi, Array.length_toList, arrv_size])
  rw [Array.toArray_toList] at h
  unfold execOp
  simp [ho, hx, Instr.loadAt, Instr.sureAddr, Sem.run_bind, h]
theorem ownBlock_lt2 {w : World} {B T : Nat} {v : Value} {n : Nat} {L : Nat → Int} (h : Own w B T v n L) {g : Nat} (e : v.ownBlock = some g) : B ≤ g ∧ g < w.heap.size := World.ownsRow.lt h g e
theorem snoc_fun2 {n : Nat} {L : Nat → Int} {y : Int} (e : y = L n) : ∀ i, i < n + 1 → upd L n y i = L i := fun i _ => by
  unfold upd; split
  · rename_i h; rw [h, e]
  · rfl
def vaV (L : Nat → Nat → Int) (n : Nat) : Nat → Int := fun i => satV (sumS (fun j => L j i) n)
def vaH (L : Nat → Nat → Int) (n : Nat) : Nat → Bool := fun i => sumB (fun j => L j i) n || satH (sumS (fun j => L j i) n)
def vaK (L : Nat → Nat → Int) (n k : Nat) : Nat → Int := fun i => if i < k then vaV L n i else 0
/-- Nothing below the own blocks has turned. -/
theorem VaR.down2 {c : Addr} {h : Bool} {p o n : Nat} {L : Nat → Nat → Int} {F : Nat → Int} {w wr w' : World} (s : VaR c h p o n L F w wr) (u : Below (w.heap.size + 1 + 1) wr w') (hz : w.heap.size + 1 + 1 ≤ wr.heap.size) : VaR c h p o n L F w w' := by
  have hcb := s.cb
  have hpb := s.pb
  exact ⟨s.upd.then' (u.mono (by omega)), (u.block _ (by omega)).trans s.r, (u.block _ (by omega)).trans s.ou, fun j hj k hk => (u.cell (show p < _ by omega)).trans (s.ls j hj k hk), (u.cell (by omega)).trans s.cell, (u.frozen (by omega)).trans s.free, s.cb, s.pb⟩
theorem va_start (c : Addr) (h : Bool) (p o n : Nat) (L : Nat → Nat → Int) (w : World) (hc : w.cell? c = some (.bool h)) (hf : w.frozen? c = false) (hn : 0 < n) (hL : VLs w p o n L) :
    VaR c h p o n L (fun _ => 0) w ((w.alloc (.cells #[.int .i64 0, .int .i64 0, .int .i64 0] 41)).alloc (.cells #[.int .i64 0, .int .i64 0, .int .i64 0] 41)) := by
  have hcb := World.block_lt_of_cell? w c hc
  have bl : Below w.heap.size w ((w.alloc (.cells #[.int .i64 0, .int .i64 0, .int .i64 0] 41)).alloc (.cells #[.int .i64 0, .int .i64 0, .int .i64 0] 41)) := by (repeat (first | with_reducible exact Below.refl _ _ | with_reducible apply Below.drew | (with_reducible refine below_drewN ?_ _) | (with_reducible refine Below.alloc ?_ (by (try simp) <;> omega) _) | (with_reducible refine Below.setCell ?_ (by (try simp) <;> omega) _)))
  refine ⟨Upd.then (Upd.refl hc) bl, ?_, ?_, hL.below bl, (bl.cell hcb).trans hc, (bl.frozen hcb).trans hf, hcb, World.block_lt_of_cell? w _ (hL 0 hn 0 (by decide))⟩
  · rw [zv3]; exact (Blk.new w _ 3 _).alloc _
  · rw [zv3]; exact Blk.new1 w _ _ 3 _
set_option maxHeartbeats 16000000 in
theorem vadd_any (c : Addr) (h : Bool) (p o ca n : Nat) (L : Nat → Nat → Int) (w : World) (hc : w.cell? c = some (.bool h)) (hf : w.frozen? c = false) (hn : 0 < n) (hn2 : n ≤ 100) (hL : VLs w p o n L) :
    Calls Try.prog 46 #[.pointer (some c), .slice (some ⟨p, o, none⟩) n ca] w fun e w' => e = .returned (.agg (arrv 3 (vaV L n))) ∧ Upd c (h || orB (vaH L n) 3) w w' := by
  have S0 := Lib.hid (va_start c h p o n L w hc hf hn hL)
  clear hc hf hL
  go_enter Try.func46, Try.ntmps46
  go_upto_region 2 with fail
  have hz0 : w.heap.size + 1 + 1 ≤ ((w.alloc (.cells #[.int .i64 0, .int .i64 0, .int .i64 0] 41)).alloc (.cells #[.int .i64 0, .int .i64 0, .int .i64 0] 41)).heap.size := by simp
  generalize (w.alloc (.cells #[.int .i64 0, .int .i64 0, .int .i64 0] 41)).alloc (.cells #[.int .i64 0, .int .i64 0, .int .i64 0] 41) = W0 at *
  go_wp2_with fail
  go_loopw [10] (fun i wr => ∃ k : Nat, k ≤ 3 ∧ i = .int .i64 k ∧ w.heap.size + 1 + 1 ≤ wr.heap.size ∧ Hid (VaR c (h || orB (vaH L n) k) p o n L (vaK L n k) w wr)) (fun i _ => 3 - (intOf i).toNat)
  case atStart => exact ⟨0, by omega, rfl, hz0, Lib.hid (S0.out.congr (by simp [orB]) fun i hi => by simp [vaK])⟩
  case round =>
    obtain ⟨k, hk, rfl, hz, R⟩ := hrel
    clear S0 hz0
    by_cases hlt : k < 3
    · have d1 : decide ((k : Int) < 3) = true := by simp; omega
      have k0 : (0 : Int) ≤ (k : Int) := Int.natCast_nonneg _
      have k1 : (k : Int) < 3 := by omega
      have HK := Lib.hid (show (h || orB (vaH L n) (k + 1)) = (h || orB (vaH L n) k || sumB (fun j => L j k) n || satH (sumS (fun j => L j k) n)) by simp [vaH, orB, Bool.or_assoc])
      obtain ⟨H, hH⟩ : ∃ x, (h || orB (vaH L n) k) = x := ⟨_, rfl⟩
      rw [hH] at R HK
      clear hH
      go_upto_region 6 with fail
      go_wp2_with fail
      go_loopw [7, 15] (fun u j wr => ∃ (q : Nat) (v : Value), q ≤ n ∧ u = v ∧ j = .int .i64 q ∧ w.heap.size + 1 + 1 ≤ wr.heap.size ∧ Hid (VaR c H p o n L (vaK L n k) w wr ∧ Own wr (w.heap.size + 1 + 1) 2 v q (fun j => L j k))) (fun _ j _ => n - (intOf j).toNat)
      case atStart => exact ⟨0, _, by omega, rfl, rfl, hz, Lib.hid ⟨R.out, Own.nil _ _ _ _⟩⟩
      case round =>
        obtain ⟨q, v, hq, hv, rfl, hz2, T⟩ := hrel
        clear R hz
        subst hv
        by_cases hqn : q < n
        · have e1 : decide (q < n) = true := by simpa using hqn
          have q0 : (0 : Int) ≤ (q : Int) := Int.natCast_nonneg _
          have q1 : (q : Int) < (n : Int) := by omega
          have LR := Lib.hid (T.out.1.ls q hqn)
          have O1 := Lib.hid T.out.2
          have V1 := Lib.hid T.out.1
          clear T
          go_upto_region 8 with fail
          refine wp_region_lit ?_
          refine wpList_val (v := ?_) rfl ?_ ?_
          rotate_left
          · (go_simp; (try (first | with_reducible rfl | (constructor <;> with_reducible rfl))))
          (try simp only [Act.put, nA, nB, nC])
          refine wpList_val (v := ?_) rfl ?_ ?_
          rotate_left
          · (refine Eq.trans (run_load_mid3 41 (.tmp 17) (by rfl) p (o + q * 3) 3 (by rfl) (L q) (fun j hj => LR.out j hj) _ Try.underlying41 rfl iv3) ?_; with_reducible rfl)
          (try simp only [Act.put, nA, nB, nC])
          refine wpList_act (v := ?_) (w' := ?_) rfl ?_ ?_
          rotate_left 2
          · (go_simp; (try (first | with_reducible rfl | (constructor <;> with_reducible rfl))))
          (try simp only [Act.put, nA, nB, nC])
          have NB := Lib.hid (V1.out.row hz2 (L q)); (refine wpList_done (w' := ?_) rfl ?_ ?_); rotate_left; (focus (refine Eq.trans (run_store_row 41 (.tmp 9) (.tmp 18) (by rfl) (wr.heap.size) (by rfl) (by rfl) (show Blk (wr.alloc (.cells #[.int .i64 0, .int .i64 0, .int .i64 0] 41)) wr.heap.size 41 3 (fun _ => 0) by rw [zv3]; exact Blk.new _ _ _ _) (iv3.trans rfl)) ?_; with_reducible rfl))
          refine wpList_nil ?_
          have O2 := Lib.hid (O1.out.below NB.out.2.2)
          have V2 := Lib.hid NB.out.1
          have xc := NB.out.2.1.cell hlt
          have hzw : wr.heap.size < ((wr.alloc (.cells #[.int .i64 0, .int .i64 0, .int .i64 0] 41)).setRow wr.heap.size (arrv 3 (L q))).heap.size := NB.out.2.1.lt
          generalize (wr.alloc (.cells #[.int .i64 0, .int .i64 0, .int .i64 0] 41)).setRow wr.heap.size (arrv 3 (L q)) = W2 at *
          obtain ⟨b, hb⟩ : ∃ b, wr.heap.size = b := ⟨_, rfl⟩
          have hz3 : w.heap.size + 1 + 1 ≤ W2.heap.size := by omega
          rw [hb] at xc ⊢
          obtain ⟨y, hy⟩ : ∃ y, L q k = y := ⟨_, rfl⟩
          rw [hy] at xc
          have HY := Lib.hid hy.symm
          clear NB O1 V1 LR hy hb hzw hz2
          go_upto_region 9 with fail
          go_upto_region 10 with (refine wpList_app1 rfl (.tmp 19) (.tmp 23) rfl (w.heap.size + 1 + 1) rfl (O2.out.alloc _) W2.heap.size 1 y rfl (by simp [go_sem]) (by omega) (by simp; omega) (W2.heap.size + 1) (by simp) ?_; intro g1 cp1 w3 hO1 hg1 hat1 hlt1; have HO1 := Lib.hid hO1; have HG1 := Lib.hid hg1; clear hO1 hg1 hat1)
          have hB := below_grown ((Below.refl (w.heap.size + 1 + 1) W2).alloc (by omega) (.cells #[.int .i64 y] 2)) HG1.out (fun j hj => (ownBlock_lt2 O2.out hj).1) (by simp; omega)
          have V3 := Lib.hid (V2.out.down2 hB hz3)
          have hz4 : w.heap.size + 1 + 1 ≤ w3.heap.size := by have := hB.size; omega
          have O3 := Lib.hid (HO1.out.congr (snoc_fun2 HY.out))
          clear hB HO1 HG1 O2 V2 HY xc hz3
          go_wp2_with fail
          go_roundw
          case rel => exact ⟨q + 1, _, by omega, rfl, by go_num, hz4, Lib.hid ⟨V3.out, O3.out⟩⟩
          case measure => simp [intOf]; omega
        · have hq2 : q = n := by omega
          subst hq2
          have e1 : decide (q < q) = false := by simp
          obtain ⟨g, cp, rfl, hg1, hg2, hg3⟩ := T.out.2.slc hn
          have V1 := Lib.hid T.out.1
          have FC := Lib.hid (fadd_any c H (fun j => L j k) g 0 cp q wr V1.out.cell V1.out.free hn2 hg3)
          clear T hg1 hg2 hg3
          go_upto_region 11 with fail
          go_wp2_with (go_at_call 70; (refine FC.out.mono ?_); rintro e w4 ⟨rfl, hu4⟩; have hz4 := hu4.size; have V4 := Lib.hid (V1.out.upd' hu4); clear hu4 FC V1; have a0 := V4.out.ou.cell hlt; have a1 := V4.out.ou.free k)
          go_roundw
          case rel =>
            refine ⟨k + 1, by omega, by go_num, by rw [setCell_size]; omega, Lib.hid ((V4.out.set k _).congr HK.out.symm fun i hi => ?_)⟩
            simp only [Go.Proofs.Ytanmddenleffaaa.upd, vaK]
            by_cases h1 : i = k
            · subst h1; rw [if_pos rfl, if_pos (by omega)]; rfl
            · rw [if_neg h1]
              by_cases h2 : i < k
              · rw [if_pos h2, if_pos (by omega)]
              · rw [if_neg h2, if_neg (by omega)]
          case measure => simp [intOf]; omega
    · have hk3 : k = 3 := by omega
      subst hk3
      have R2 := R.out.congr rfl (G := vaV L n) fun i hi => by simp only [vaK]; rw [if_pos hi]
      have U := Lib.hid R2.upd
      have B0 := R2.ou
      have B1 := R2.r
      clear R R2
      rw [show ((3 : Nat) : Int) = 3 from rfl]
      go_wp2_with (first | (refine wpList_load_row rfl 41 _ rfl (w.heap.size + 1) rfl 41 _ (0, 0) _ (B0) Try.underlying41 rfl (iv3.trans (by rw [arrv_size])) ?_) | (refine wpList_store_row rfl 41 _ _ rfl (w.heap.size) _ rfl rfl 41 _ (B1) (iv3.trans (by rw [arrv_size])) (by rw [arrv_size, arrv_size]) (oneCell_arrv _ _) ?_))
      refine bodyPost_ret (results_cell_row Try.results46 _ _ w.heap.size 41 (arrv 3 (vaV L n)) (0, 0) _ rfl (setRow_heap _ _ _ _ _ _ B1) Try.underlying41 rfl (iv3.trans (by rw [arrv_size]))) rfl ⟨rfl, ?_⟩
      exact U.out.then' (below_row (Below.refl _ _) (by omega) _)
end Go.Proofs.Ytanmddenleffaaa
namespace Go.Proofs.Ytanmddenleffaaa
open Go.RowKit
set_option maxRecDepth 100000
open Go in
theorem wpAnyM_threeS {P : Program} {ops : Array Oper} {Q : Exit → Act → World → Prop} {md : Region.Mode} {L : Nat} {S : World → Prop} (i j l : Nat) {oi oj ol : Oper} {fuel : Nat} {listed : Array Bool} {a : Act} {w : World} (hi : ops.toList[i]? = some oi) (hj : ops.toList[j]? = some oj) (hl : ops.toList[l]? = some ol) (hr : Region.ready md ops listed = [i, j, l])
    (h1 : ∀ K : Act → World → Prop, Shut (∀ a w, S w → (S w → wpAnyM P md ops Q S L fuel (listed.setIfInBounds i true) a w) → K a w) →
      if Region.wanted oi (yielded ops a.tmps) = true then Oper.wp P oi a w K Q else K (a.put oi.dst undef) w)
    (h2 : ∀ K : Act → World → Prop, Shut (∀ a w, S w → (S w → wpAnyM P md ops Q S L fuel (listed.setIfInBounds j true) a w) → K a w) →
      if Region.wanted oj (yielded ops a.tmps) = true then Oper.wp P oj a w K Q else K (a.put oj.dst undef) w)
    (h3 : ∀ K : Act → World → Prop, Shut (∀ a w, S w → (S w → wpAnyM P md ops Q S L fuel (listed.setIfInBounds l true) a w) → K a w) →
      if Region.wanted ol (yielded ops a.tmps) = true then Oper.wp P ol a w K Q else K (a.put ol.dst undef) w) :
    wpAnyM P md ops Q S L (fuel + 1) listed a w := by
  have hi' : ops[i]? = some oi := by rwa [Array.getElem?_toList] at hi
  have hj' : ops[j]? = some oj := by rwa [Array.getElem?_toList] at hj
  have hl' : ops[l]? = some ol := by rwa [Array.getElem?_toList] at hl
  refine ⟨fun h0 => (by rw [hr] at h0; cases h0), fun k hk => ?_⟩
  rw [hr] at hk
  have hk' : k = i ∨ k = j ∨ k = l := by simpa using hk
  rcases hk' with rfl | rfl | rfl
  · exact wpOp_step hi' (fun K' hK => h1 K' (fun a w hS hW => hK a w ⟨.inr hS, hW hS⟩))
  · exact wpOp_step hj' (fun K' hK => h2 K' (fun a w hS hW => hK a w ⟨.inr hS, hW hS⟩))
  · exact wpOp_step hl' (fun K' hK => h3 K' (fun a w hS hW => hK a w ⟨.inr hS, hW hS⟩))
end Go.Proofs.Ytanmddenleffaaa
namespace Go.Proofs.Ytanmddenleffaaa
theorem satV_sb {x : Int} (h : SB x) : satV x = x := satV_id h.1 h.2
theorem satH_sb {x : Int} (h : SB x) : satH x = false := satH_no h.1 h.2
theorem rsh_err (x : Int) : -1073741824 ≤ 2 * (1073741824 * rsh x 30 - x) ∧ 2 * (1073741824 * rsh x 30 - x) ≤ 1073741824 := by
  have h2 : ((2 : Int) ^ 30) = 1073741824 := by decide
  unfold rsh; rw [h2]
  exact rdiv_err (by decide)
theorem mul_bd {x y X Y : Int} (hx : -X ≤ x ∧ x ≤ X) (hy : -Y ≤ y ∧ y ≤ Y) : -(X * Y) ≤ x * y ∧ x * y ≤ X * Y := by
  have hX : 0 ≤ X := by omega
  have hY : 0 ≤ Y := by omega
  have e : ((x * y).natAbs : Int) ≤ X * Y := by
    rw [Int.natAbs_mul, Int.natCast_mul]
    exact Int.mul_le_mul (by omega) (by omega) (by omega) hX
  generalize X * Y = Z at *
  generalize x * y = z at *
  omega
theorem mulV_of {a b : Int} (ha : SB a) (hb : SB b) (h : SB (rsh (a * b) 30)) : mulV a b 30 = rsh (a * b) 30 ∧ mulH a b 30 = false := by
  unfold mulV mulH
  rw [if_neg (by decide), satV_sb ha, satV_sb hb, show (30 : Int).toNat = 30 from rfl, satV_sb h, satH_sb ha, satH_sb hb, satH_sb h]
  exact ⟨rfl, by decide⟩
end Go.Proofs.Ytanmddenleffaaa
namespace Go.Proofs.Ytanmddenleffaaa
open Go.RowKit
open Go
set_option maxRecDepth 100000
/-- Vectors, one behind the other. -/
def sideV (L : Nat → Nat → Int) : Nat → Int := fun i => L (i / 3) (i % 3)
def v2L (A B : Nat → Int) : Nat → Nat → Int | 0 => A | _ => B
def v3L (A B C : Nat → Int) : Nat → Nat → Int | 0 => A | 1 => B | _ => C
theorem fillv2 (A B : Nat → Int) (Z : Array Value) (hZ : Z = arrv 6 (fun _ => 0)) : Instr.fill (fun i => some (i * 3, 3)) Z [(0, .agg (arrv 3 A)), (1, .agg (arrv 3 B))] = some (arrv 6 (sideV (v2L A B))) := by
  subst hZ; kernel_rfl
theorem fillv3 (A B C : Nat → Int) (Z : Array Value) (hZ : Z = arrv 9 (fun _ => 0)) : Instr.fill (fun i => some (i * 3, 3)) Z [(0, .agg (arrv 3 A)), (1, .agg (arrv 3 B)), (2, .agg (arrv 3 C))] = some (arrv 9 (sideV (v3L A B C))) := by
  subst hZ; kernel_rfl
theorem zrange6 (Z : Array Value) (hZ : Z = arrv 3 (fun _ => 0)) : (Array.range (2 * 3)).map (fun i => Z[i % Z.size]!) = arrv 6 (fun _ => 0) := by
  subst hZ; kernel_rfl
theorem zrange9 (Z : Array Value) (hZ : Z = arrv 3 (fun _ => 0)) : (Array.range (3 * 3)).map (fun i => Z[i % Z.size]!) = arrv 9 (fun _ => 0) := by
  subst hZ; kernel_rfl
theorem run_bslv2 (A B : Nat → Int) (w : World) : (Instr.buildSlice 113 2 #[(0, .agg (arrv 3 A)), (1, .agg (arrv 3 B))]).run Try.prog w = .ok (.slice (some ⟨w.heap.size, 0, none⟩) 2 2) (w.alloc (.cells (arrv 6 (sideV (v2L A B))) 41)) := by
  have hz : (zeroValue 41).run Try.prog w = .ok (.agg (arrv 3 (fun _ => 0))) w := by kernel_rfl
  have hs : (sizeOf 41).run Try.prog w = .ok 3 w := by kernel_rfl
  unfold Instr.buildSlice
  simp only [Sem.run_bind, run_underlying Try.underlying113, Result.andThen_ok, hs]
  rw [if_neg (by decide), if_neg (by decide)]
  have hf : Instr.fill (fun i => some (i * 3, 3)) (Array.map (fun x => (Value.agg (arrv 3 (fun _ => 0))).cells[x % (Value.agg (arrv 3 (fun _ => 0))).cells.size]!) (Array.range (2 * 3))) [(0, Value.agg (arrv 3 A)), (1, Value.agg (arrv 3 B))] = some (arrv 6 (sideV (v2L A B))) :=
    fillv2 A B _ (zrange6 (arrv 3 (fun _ => 0)) rfl)
  simp only [Sem.run_bind, hz, Result.andThen_ok, Sem.run_pure, hf]
  simp [newRow, newObj, go_sem]
  rfl
theorem run_bslv3 (A B C : Nat → Int) (w : World) : (Instr.buildSlice 113 3 #[(0, .agg (arrv 3 A)), (1, .agg (arrv 3 B)), (2, .agg (arrv 3 C))]).run Try.prog w = .ok (.slice (some ⟨w.heap.size, 0, none⟩) 3 3) (w.alloc (.cells (arrv 9 (sideV (v3L A B C))) 41)) := by
  have hz : (zeroValue 41).run Try.prog w = .ok (.agg (arrv 3 (fun _ => 0))) w := by kernel_rfl
  have hs : (sizeOf 41).run Try.prog w = .ok 3 w := by kernel_rfl
  unfold Instr.buildSlice
  simp only [Sem.run_bind, run_underlying Try.underlying113, Result.andThen_ok, hs]
  rw [if_neg (by decide), if_neg (by decide)]
  have hf : Instr.fill (fun i => some (i * 3, 3)) (Array.map (fun x => (Value.agg (arrv 3 (fun _ => 0))).cells[x % (Value.agg (arrv 3 (fun _ => 0))).cells.size]!) (Array.range (3 * 3))) [(0, Value.agg (arrv 3 A)), (1, Value.agg (arrv 3 B)), (2, Value.agg (arrv 3 C))] = some (arrv 9 (sideV (v3L A B C))) :=
    fillv3 A B C _ (zrange9 (arrv 3 (fun _ => 0)) rfl)
  simp only [Sem.run_bind, hz, Result.andThen_ok, Sem.run_pure, hf]
  simp [newRow, newObj, go_sem]
  rfl
theorem wp_bslv2 {o : Oper} {a : Act} {w : World} {K : Act → World → Prop} {Q : Exit → Act → World → Prop} {A B : Nat → Int} (x y : Operand) (ho : o.op = .buildSlice 113 2 #[(0, x), (1, y)])
    (hx : a.eval x = .agg (arrv 3 A)) (hy : a.eval y = .agg (arrv 3 B)) (h : K (a.put o.dst (.slice (some ⟨w.heap.size, 0, none⟩) 2 2)) (w.alloc (.cells (arrv 6 (sideV (v2L A B))) 41))) : o.wp Try.prog a w K Q := by
  unfold Oper.wp execOp
  simp only [ho, Sem.run_bind, List.map_toArray, List.map_cons, List.map_nil, hx, hy, run_bslv2 A B w, Result.andThen_ok]
  exact h
theorem wp_bslv3 {o : Oper} {a : Act} {w : World} {K : Act → World → Prop} {Q : Exit → Act → World → Prop} {A B C : Nat → Int} (x y z : Operand) (ho : o.op = .buildSlice 113 3 #[(0, x), (1, y), (2, z)])
    (hx : a.eval x = .agg (arrv 3 A)) (hy : a.eval y = .agg (arrv 3 B)) (hz : a.eval z = .agg (arrv 3 C)) (h : K (a.put o.dst (.slice (some ⟨w.heap.size, 0, none⟩) 3 3)) (w.alloc (.cells (arrv 9 (sideV (v3L A B C))) 41))) : o.wp Try.prog a w K Q := by
  unfold Oper.wp execOp
  simp only [ho, Sem.run_bind, List.map_toArray, List.map_cons, List.map_nil, hx, hy, hz, run_bslv3 A B C w, Result.andThen_ok]
  exact h
theorem vls_of {w : World} {b T n : Nat} {L : Nat → Nat → Int} (h : Blk w b T (3 * n) (sideV L)) : VLs w b 0 n L := fun j hj k hk => by
  have := h.cell (i := j * 3 + k) (by omega)
  rw [show 0 + j * 3 + k = j * 3 + k by omega, this]
  unfold sideV
  rw [show (j * 3 + k) / 3 = j by omega, show (j * 3 + k) % 3 = k by omega]
theorem run_build_v3z {o : Oper} {ev : Operand → Value} {w : World} (x : Operand) (ho : o.op = .build 41 #[(2, x)]) {a : Int} (hx : ev x = .int .i64 a) :
    (execOp ev o).run Try.prog w = .ok (.value (.agg (arrv 3 (vc3 0 0 a)))) w := by
  unfold execOp
  simp only [ho, List.map_toArray, List.map_cons, List.map_nil, hx]
  kernel_rfl
end Go.Proofs.Ytanmddenleffaaa
namespace Go.Proofs.Ytanmddenleffaaa
open Go.RowKit
set_option maxRecDepth 100000
/-- The numbers of a step: of a kept estimate and a sample's parts. -/
def stQ (S P : Nat → Int) : Nat → Int := uniV (qmV S (fun i => P (7 + i)))
def stG (P : Nat → Int) : Nat → Int := vc3 0 0 (mulV 10529810258 (P 0) 30)
def stA (P : Nat → Int) : Nat → Int := apV (fun i => P (11 + i)) (fun i => P (4 + i))
def stN (S P : Nat → Int) : Nat → Int := vaV (v3L (partF S 4) (stA P) (stG P)) 3
def stF (P : Nat → Int) : Int := mulV (P 0) 536870912 30
def stM (S P : Nat → Int) : Nat → Int := vaV (v2L (partF S 4) (stN S P)) 2
def stL (S P : Nat → Int) : Nat → Int := fun i => mulV (stM S P i) (stF P) 30
def stX (S P : Nat → Int) : Nat → Int := vaV (v2L (partF S 7) (stL S P)) 2
def stS (S P : Nat → Int) : Nat → Int := withF (withF (withF S 0 4 (stQ S P)) 4 3 (stN S P)) 7 3 (stX S P)
def stepN (S I : Nat → Int) : Nat → Int := keepF (stS (keepF S) (spF (keepF S) I))
def stHH (S P : Nat → Int) : Bool := qmH S (fun i => P (7 + i)) || uniH (qmV S (fun i => P (7 + i))) || apH (fun i => P (11 + i)) (fun i => P (4 + i)) || mulH 10529810258 (P 0) 30 || orB (vaH (v3L (partF S 4) (stA P) (stG P)) 3) 3 || mulH (P 0) 536870912 30 || orB (vaH (v2L (partF S 4) (stN S P)) 2) 3 || orB (fun i => mulH (stM S P i) (stF P) 30) 3 || orB (vaH (v2L (partF S 7) (stL S P)) 2) 3 || keepH (stS S P)
def stepH2 (S I : Nat → Int) : Bool := keepH S || spH (keepF S) I || keepH S || stHH (keepF S) (spF (keepF S) I)
section
variable {c : Addr} {h h' : Bool} {S I : Nat → Int} {E : List Ex} {top : Nat} {w wr w' : World}
theorem TsR.ex0 {b T n : Nat} {F : Nat → Int} (s : TsR c h S I (⟨b, T, n, F⟩ :: E) top w wr) : Blk wr b T n F := (s.ex _ (.head _)).1
theorem TsR.ex1 {a : Ex} {b T n : Nat} {F : Nat → Int} (s : TsR c h S I (a :: ⟨b, T, n, F⟩ :: E) top w wr) : Blk wr b T n F := (s.ex _ (.tail _ (.head _))).1
theorem TsR.ex2 {a a2 : Ex} {b T n : Nat} {F : Nat → Int} (s : TsR c h S I (a :: a2 :: ⟨b, T, n, F⟩ :: E) top w wr) : Blk wr b T n F := (s.ex _ (.tail _ (.tail _ (.head _)))).1
theorem TsR.ex3 {a a2 a3 : Ex} {b T n : Nat} {F : Nat → Int} (s : TsR c h S I (a :: a2 :: a3 :: ⟨b, T, n, F⟩ :: E) top w wr) : Blk wr b T n F := (s.ex _ (.tail _ (.tail _ (.tail _ (.head _))))).1
theorem ts_start (c : Addr) (h : Bool) (S I : Nat → Int) (w : World) (hc : w.cell? c = some (.bool h)) (hf : w.frozen? c = false) :
    TsR c h S I [] (w.heap.size + 1 + 1 + 1) w (((w.alloc (.cells (arrv 24 S) 30)).alloc (.cells (arrv 8 I) 33)).alloc (.cells #[.int .i64 0, .int .i64 0, .int .i64 0, .int .i64 0, .int .i64 0, .int .i64 0, .int .i64 0, .int .i64 0, .int .i64 0, .int .i64 0, .int .i64 0, .int .i64 0, .int .i64 0, .int .i64 0, .int .i64 0, .int .i64 0, .int .i64 0, .int .i64 0, .int .i64 0, .int .i64 0, .int .i64 0, .int .i64 0, .int .i64 0, .int .i64 0] 30)) := by
  have hcb := World.block_lt_of_cell? w c hc
  have bl : Below w.heap.size w (((w.alloc (.cells (arrv 24 S) 30)).alloc (.cells (arrv 8 I) 33)).alloc (.cells #[.int .i64 0, .int .i64 0, .int .i64 0, .int .i64 0, .int .i64 0, .int .i64 0, .int .i64 0, .int .i64 0, .int .i64 0, .int .i64 0, .int .i64 0, .int .i64 0, .int .i64 0, .int .i64 0, .int .i64 0, .int .i64 0, .int .i64 0, .int .i64 0, .int .i64 0, .int .i64 0, .int .i64 0, .int .i64 0, .int .i64 0, .int .i64 0] 30)) := by (repeat (first | with_reducible exact Below.refl _ _ | with_reducible apply Below.drew | (with_reducible refine below_drewN ?_ _) | (with_reducible refine Below.alloc ?_ (by (try simp) <;> omega) _) | (with_reducible refine Below.setCell ?_ (by (try simp) <;> omega) _)))
  refine ⟨Upd.then (Upd.refl hc) bl, ?_, ?_, ?_, (bl.cell hcb).trans hc, (bl.frozen hcb).trans hf, hcb, (fun e he => by cases he), by omega, by simp⟩
  · exact ((Blk.new w _ 24 S).alloc _).alloc _
  · exact (Blk.new1 w _ _ 8 I).alloc _
  · rw [zvec24]; exact blk_new2 w _ _ _ 24 _
theorem ts_new4 (s : TsR c h S I E top w wr) (d : Nat) (e : wr.heap.size = d) : Blk (wr.alloc (.cells #[.int .i64 0, .int .i64 0, .int .i64 0, .int .i64 0] 40)) d 40 4 (fun _ => 0) ∧ top ≤ d := by
  subst e; rw [zq4]; exact ⟨Blk.new _ _ _ _, s.le⟩
theorem ts_new3 (s : TsR c h S I E top w wr) (d : Nat) (e : wr.heap.size = d) : Blk (wr.alloc (.cells #[.int .i64 0, .int .i64 0, .int .i64 0] 41)) d 41 3 (fun _ => 0) ∧ top ≤ d := by
  subst e; rw [zv3]; exact ⟨Blk.new _ _ _ _, s.le⟩
theorem ts_new20 (s : TsR c h S I E top w wr) : Blk (wr.alloc (.cells #[.int .i64 0, .int .i64 0, .int .i64 0, .int .i64 0, .int .i64 0, .int .i64 0, .int .i64 0, .int .i64 0, .int .i64 0, .int .i64 0, .int .i64 0, .int .i64 0, .int .i64 0, .int .i64 0, .int .i64 0, .int .i64 0, .int .i64 0, .int .i64 0, .int .i64 0, .int .i64 0] 64)) wr.heap.size 64 20 (fun _ => 0) ∧ top ≤ wr.heap.size := by
  rw [zp20]; exact ⟨Blk.new _ _ _ _, s.le⟩
end
end Go.Proofs.Ytanmddenleffaaa
namespace Go.Proofs.Ytanmddenleffaaa
theorem orB_noB {p : Nat → Bool} : ∀ {n : Nat}, (∀ i, i < n → p i = false) → orB p n = false
  | 0, _ => rfl
  | n + 1, h => by simp only [orB]; rw [orB_noB fun i hi => h i (by omega), h n (by omega)]; rfl
theorem clampV_id {x M : Int} (h : -M ≤ x ∧ x ≤ M) : clampV x (-M) M = x ∧ clampH x (-M) M = false := by
  unfold clampV clampH; rw [if_neg (by omega), if_neg (by omega), if_neg (by omega)]; simp; omega
theorem clm_fix {K : Nat → Int} (h : ∀ i, i < 24 → -(boxF i) ≤ K i ∧ K i ≤ boxF i) : (∀ i, i < 24 → clmF K i = K i) ∧ clmH K = false := by
  refine ⟨fun i hi => ?_, orB_noB fun i hi => (clampV_id (h (4 + i) (by omega))).2⟩
  unfold clmF; split
  · rfl
  · exact (clampV_id (h i hi)).1
/-- What is good is kept as it is. -/
theorem keep_fix {K : Nat → Int} (h : goodB K = true) : (∀ i, i < 24 → keepF K i = K i) ∧ keepH K = false := by
  obtain ⟨h1, h2⟩ := good_parts h
  have e : keepI K = K := by unfold keepI; rw [if_pos h2]
  obtain ⟨c1, c2⟩ := clm_fix h1
  unfold keepF keepH
  rw [if_pos h2, e]
  exact ⟨c1, by rw [c2]; rfl⟩
end Go.Proofs.Ytanmddenleffaaa
namespace Go.Proofs.Ytanmddenleffaaa
section
variable {W e : Nat → Int} (hW : ∀ x, x < 1152 → W x = idW x) (he : ∀ k, k < 48 → 0 ≤ e k ∧ e k ≤ 72057594037927936)
include hW he
variable (hs : ∀ j, j < 24 → 1 ≤ e j + e (24 + j) ∧ e j + e (24 + j) ≤ 72057594037927936)
include hs
end
theorem qV_id {a : Int} (h : 0 ≤ a) (h' : a ≤ 72057594037927936) : qV a = a ∧ qH a = false := by
  constructor
  · unfold qV clampV; rw [if_neg (by omega), if_neg (by omega), if_neg (by omega)]
  · unfold qH clampH; simp; omega
end Go.Proofs.Ytanmddenleffaaa
namespace Go.Proofs.Ytanmddenleffaaa
theorem ur_dotS {A B A' B' : Nat → Int} : ∀ {n : Nat}, (∀ i, i < n → A i = A' i ∧ B i = B' i) → dotS A B n = dotS A' B' n
  | 0, _ => rfl
  | n + 1, h => by simp only [dotS]; rw [ur_dotS fun i hi => h i (by omega), (h n (by omega)).1, (h n (by omega)).2]
theorem ur_dotB {A B A' B' : Nat → Int} : ∀ {n : Nat}, (∀ i, i < n → A i = A' i ∧ B i = B' i) → dotB A B n = dotB A' B' n
  | 0, _ => rfl
  | n + 1, h => by simp only [dotB]; rw [ur_dotB fun i hi => h i (by omega), (h n (by omega)).1, (h n (by omega)).2]
theorem ur_dot {A B A' B' : Nat → Int} {n : Nat} (h : ∀ i, i < n → A i = A' i ∧ B i = B' i) : dotV 30 A B n = dotV 30 A' B' n ∧ dotH 30 A B n = dotH 30 A' B' n := by
  unfold dotV dotH; rw [ur_dotS h, ur_dotB h]; exact ⟨rfl, rfl⟩
theorem ur_orB {p q : Nat → Bool} : ∀ {n : Nat}, (∀ i, i < n → p i = q i) → orB p n = orB q n
  | 0, _ => rfl
  | n + 1, h => by simp only [orB]; rw [ur_orB fun i hi => h i (by omega), h n (by omega)]
theorem ur_hyp {A B : Nat → Int} {n : Nat} (h : ∀ i, i < n → A i = B i) : hypV A n = hypV B n ∧ hypH A n = hypH B n := by
  unfold hypV hypH
  rw [ur_dotS fun i hi => ⟨h i hi, h i hi⟩, ur_orB fun i hi => by rw [h i hi]]; exact ⟨rfl, rfl⟩
section
variable {A B : Nat → Int} (h : ∀ i, i < 4 → A i = B i)
include h
theorem ur_uniT : (∀ i, i < 4 → uniT A i = uniT B i) ∧ uniTH A = uniTH B := by
  refine ⟨fun i hi => by unfold uniT; rw [h i hi, (ur_hyp h).1], ?_⟩
  unfold uniTH; rw [(ur_hyp h).1, (ur_hyp h).2, ur_orB fun i hi => by rw [h i hi]]
theorem ur_satA : ∀ i, i < 4 → satA A i = satA B i := fun i hi => by unfold satA; rw [h i hi]
theorem ur_zer : zer4 A = zer4 B := by unfold zer4; rw [h 0 (by omega), h 1 (by omega), h 2 (by omega), h 3 (by omega)]
theorem ur_uni : (∀ i, i < 4 → uniV A i = uniV B i) ∧ uniH A = uniH B := by
  have s := ur_satA h
  have z := ur_zer s
  have u := ur_uniT s
  have v := ur_uniT u.1
  constructor
  · intro i hi
    unfold uniV
    rw [z]
    by_cases hz : zer4 (satA B) = true
    · rw [if_pos hz, if_pos hz]
    · rw [if_neg hz, if_neg hz]; exact v.1 i hi
  · unfold uniH; rw [z, u.2, v.2, ur_orB fun i hi => by rw [h i hi]]
theorem ur_qmR (r : Nat) : qmR A r = qmR B r := by
  have h0 := h 0 (by decide)
  have h1 := h 1 (by decide)
  have h2 := h 2 (by decide)
  have h3 := h 3 (by decide)
  unfold qmR
  split <;> rw [h0, h1, h2, h3]
theorem ur_roAB (k : Nat) : ∀ i, i < 4 → roA A k i = roA B k i ∧ roB A k i = roB B k i := by
  have h0 := h 0 (by decide)
  have h1 := h 1 (by decide)
  have h2 := h 2 (by decide)
  have h3 := h 3 (by decide)
  intro i hi
  constructor
  · unfold roA
    split <;> first | exact h i hi | simp only [h0, h1, h2, h3]
  · unfold roB
    split <;> simp only [h0, h1, h2, h3]
end
theorem ur_qm {A A' B B' : Nat → Int} (h : ∀ i, i < 4 → A i = A' i) (k : ∀ i, i < 4 → B i = B' i) : (∀ r, qmV A B r = qmV A' B' r) ∧ qmH A B = qmH A' B' := by
  have hs := ur_satA h
  have ks := ur_satA k
  have d : ∀ r, dotV 30 (satA A) (qmR (satA B) r) 4 = dotV 30 (satA A') (qmR (satA B') r) 4 ∧ dotH 30 (satA A) (qmR (satA B) r) 4 = dotH 30 (satA A') (qmR (satA B') r) 4 := fun r => by
    rw [ur_qmR ks r]; exact ur_dot fun i hi => ⟨hs i hi, rfl⟩
  refine ⟨fun r => (d r).1, ?_⟩
  unfold qmH
  rw [ur_orB fun i hi => by rw [h i hi], ur_orB (n := 4) (p := fun i => satH (B i)) fun i hi => by rw [k i hi], ur_orB (p := fun r => dotH 30 (satA A) (qmR (satA B) r) 4) fun r _ => (d r).2]
theorem ur_ro {A B : Nat → Int} (h : ∀ i, i < 4 → A i = B i) : (∀ k, roV A k = roV B k) ∧ roH A = roH B := by
  have s := ur_satA h
  have d : ∀ k, roN (satA A) k = roN (satA B) k ∧ roNH (satA A) k = roNH (satA B) k := fun k => by
    unfold roN roNH; exact ur_dot (ur_roAB s k)
  refine ⟨fun k => (d k).1, ?_⟩
  unfold roH
  rw [ur_orB fun i hi => by rw [h i hi], ur_orB (p := roNH (satA A)) fun k _ => (d k).2]
/-- Of no angle. -/
theorem ur_exp {v : Nat → Int} (h : ∀ i, i < 3 → v i = 0) : exV v = oneQ ∧ exH v = false := by
  have s : ∀ i, i < 3 → satA v i = (fun _ => 0) i := fun i hi => by unfold satA; rw [h i hi]; rfl
  have hy := ur_hyp s
  have e0 : exU v = 0 := by unfold exU; rw [hy.1]; decide +kernel
  unfold exV exH exH0
  rw [if_pos e0, if_pos e0, hy.2, ur_orB (q := fun _ => satH 0) fun i hi => by rw [h i hi]]
  exact ⟨rfl, by decide +kernel⟩
theorem ur_rsh (e : Int) : rsh (1073741824 * e) 30 = e := by
  have h2 : ((2 : Int) ^ 30) = 1073741824 := by decide
  unfold rsh rdiv
  rw [h2]
  have : (1073741824 * e).natAbs = 1073741824 * e.natAbs := by rw [Int.natAbs_mul]; rfl
  rw [this, show (1073741824 : Int).natAbs = 1073741824 from rfl]
  have e1 : (2 * (1073741824 * e.natAbs) + 1073741824) / (2 * 1073741824) = e.natAbs := by omega
  rw [e1]
  by_cases he : 0 ≤ e
  · rw [if_pos (by simp; omega)]; omega
  · rw [if_neg (by simp; omega)]; omega
end Go.Proofs.Ytanmddenleffaaa
namespace Go.Proofs.Ytanmddenleffaaa
theorem boxF_hi {i : Nat} (h : 24 ≤ i) : boxF i = 137438953472 := by
  unfold boxF; rw [if_neg (by omega), if_neg (by omega), if_neg (by omega), if_neg (by omega), if_neg (by omega), if_neg (by omega)]
/-- What is good, and nought beyond, is kept as it is. -/
theorem keep_self {S : Nat → Int} (hg : goodB S = true) (hz : ∀ i, 24 ≤ i → S i = 0) : keepF S = S ∧ keepH S = false := by
  have k := keep_fix hg
  refine ⟨funext fun i => ?_, k.2⟩
  by_cases hi : i < 24
  · exact k.1 i hi
  · have hu := (good_parts hg).2
    unfold keepF keepI clmF
    rw [if_pos hu, if_neg (by omega), hz i (by omega), boxF_hi (by omega)]
    decide
end Go.Proofs.Ytanmddenleffaaa
namespace Go.Proofs.Ytanmddenleffaaa
/-- Seconds of so many microseconds. -/
theorem sec_bd {us : Int} (h : 1000 ≤ us) (h2 : us ≤ 100000) : 1073741 ≤ secV us ∧ secV us ≤ 107374183 ∧ secH us = false := by
  have e := rdiv_err (x := us * 1073741824) (d := 1000000) (by decide)
  have b : 1073741 ≤ rdiv (us * 1073741824) 1000000 ∧ rdiv (us * 1073741824) 1000000 ≤ 107374183 := by
    generalize rdiv (us * 1073741824) 1000000 = q at *
    omega
  have s1 : satV us = us := satV_id (by omega) (by omega)
  have s2 : satH us = false := satH_no (by omega) (by omega)
  have o : satV 1073741824 = 1073741824 ∧ satH 1073741824 = false ∧ satV 1000000 = 1000000 ∧ satH 1000000 = false := by decide
  have s3 : satV (rdiv (us * 1073741824) 1000000) = rdiv (us * 1073741824) 1000000 := satV_id (by omega) (by omega)
  have s4 : satH (rdiv (us * 1073741824) 1000000) = false := satH_no (by omega) (by omega)
  unfold secV secH mdivV mdivH byV byH
  rw [s1, s2, o.1, o.2.1, o.2.2.1, o.2.2.2, if_neg (by decide), s3, s4]
  exact ⟨b.1, b.2, by decide⟩
/-- A product of small numbers. -/
theorem ml_small {a b X Y : Int} (ha : -X ≤ a ∧ a ≤ X) (hb : -Y ≤ b ∧ b ≤ Y) (hX : X ≤ 1073741824000) (hY : Y ≤ 1073741824000) (hXY : X * Y ≤ 1073741824000000000000) :
    mulV a b 30 = rsh (a * b) 30 ∧ mulH a b 30 = false ∧ -(X * Y) - 1073741824 ≤ 1073741824 * mulV a b 30 ∧ 1073741824 * mulV a b 30 ≤ X * Y + 1073741824 := by
  have m := mul_bd ha hb
  have r := rsh_err (a * b)
  have q := mulV_of (a := a) (b := b) (by unfold SB; omega) (by unfold SB; omega) (by unfold SB; omega)
  refine ⟨q.1, q.2, ?_⟩
  rw [q.1]
  omega
theorem ml_zero (b : Int) : mulV 0 b 30 = 0 := by
  unfold mulV
  rw [if_neg (by decide), show satV 0 = 0 by decide, Int.zero_mul]; decide
theorem mlH_zero {b : Int} (h : SB b) : mulH 0 b 30 = false := by
  unfold mulH
  rw [satH_sb h, show satV 0 = 0 by decide, Int.zero_mul]; decide
theorem sub_same {x : Int} (h : SB x) : subV x x = 0 ∧ subH x x = false := by
  unfold subV subH
  rw [satV_sb h, satH_sb h, Int.sub_self]; decide
/-- Gravity's part of a step, half a step. -/
theorem up_g {dt : Int} (h : 0 ≤ dt) (h2 : dt ≤ 107374183) : mulH 10529810258 dt 30 = false ∧ -1 ≤ mulV 10529810258 dt 30 ∧ mulV 10529810258 dt 30 ≤ 1052981035 ∧ mulH dt 536870912 30 = false ∧ -1 ≤ mulV dt 536870912 30 ∧ mulV dt 536870912 30 ≤ 53687093 := by
  have a := ml_small (a := 10529810258) (b := dt) (X := 10529810258) (Y := 107374183) (by decide) (by omega) (by decide) (by decide) (by decide)
  have b := ml_small (a := dt) (b := 536870912) (X := 107374183) (Y := 536870912) (by omega) (by decide) (by decide) (by decide) (by decide)
  have ra := rsh_err (10529810258 * dt)
  have rb := rsh_err (dt * 536870912)
  rw [← a.1] at ra
  rw [← b.1] at rb
  refine ⟨a.2.1, ?_, ?_, b.2.1, ?_, ?_⟩ <;> omega
end Go.Proofs.Ytanmddenleffaaa
namespace Go.Proofs.Ytanmddenleffaaa
theorem rs_div0 (b : Int) : divV 0 b 30 = 0 := by
  unfold divV byV
  rw [if_neg (by decide), show satV 0 = 0 by decide, Int.zero_mul]
  by_cases h : satV b = 0
  · rw [if_pos h, if_pos rfl]
  · rw [if_neg h]
    have e : rdiv 0 (satV b) = 0 := by
      unfold rdiv
      have : (2 * (0 : Int).natAbs + (satV b).natAbs) / (2 * (satV b).natAbs) = 0 := Nat.div_eq_of_lt (by have := Int.natAbs_pos.2 h; simp; omega)
      rw [this]
      split <;> rfl
    rw [e]; decide
/-- A nought stays one. -/
theorem rs_uni0 {A : Nat → Int} {i : Nat} (h : A i = 0) (hi : i ≠ 0) : uniV A i = 0 := by
  unfold uniV
  have s : satA A i = 0 := by unfold satA; rw [h]; decide
  by_cases z : zer4 (satA A) = true
  · rw [if_pos z]; unfold oneQ; rw [if_neg hi]
  · rw [if_neg z]
    have u : uniT (satA A) i = 0 := by unfold uniT; rw [s]; exact rs_div0 _
    show divV (uniT (satA A) i) _ 30 = 0
    rw [u]; exact rs_div0 _
/-- By One. -/
theorem rs_qm {S T : Nat → Int} (b : ∀ i, i < 4 → SB (S i)) (k : ∀ i, i < 4 → T i = oneQ i) : (∀ r, r < 4 → qmV S T r = S r) ∧ qmH S T = false := by
  have e := ur_qm (A := S) (A' := S) (B := T) (B' := oneQ) (fun _ _ => rfl) k
  have b0 := b 0 (by decide)
  have b1 := b 1 (by decide)
  have b2 := b 2 (by decide)
  have b3 := b 3 (by decide)
  have o : satV 1073741824 = 1073741824 ∧ satH 1073741824 = false ∧ satV 0 = 0 ∧ satH 0 = false := by decide
  have t : ∀ x, satV (satV x) = satV x ∧ satH (satV x) = false := fun x => ⟨satV_id (satV_bd x).1 (satV_bd x).2, satH_no (satV_bd x).1 (satV_bd x).2⟩
  have d : ∀ r, r < 4 → dotV 30 (satA S) (qmR (satA oneQ) r) 4 = S r ∧ dotH 30 (satA S) (qmR (satA oneQ) r) 4 = false := fun r hr => by
    unfold dotV dotH
    rw [if_neg (by decide), if_neg (by decide)]
    obtain rfl | rfl | rfl | rfl : r = 0 ∨ r = 1 ∨ r = 2 ∨ r = 3 := by omega
    all_goals
      simp only [dotS, dotB, satA, qmR, q4, oneQ]
      simp [o, satV_sb b0, satV_sb b1, satV_sb b2, satV_sb b3, satH_sb b0, satH_sb b1, satH_sb b2, satH_sb b3, Int.mul_comm _ 1073741824, ur_rsh]
  refine ⟨fun r hr => by rw [e.1 r]; exact (d r hr).1, ?_⟩
  rw [e.2]
  unfold qmH
  rw [orB_noB fun i hi => satH_sb (b i hi), orB_noB (p := fun r => dotH 30 (satA S) (qmR (satA oneQ) r) 4) fun r hr => (d r hr).2]
  decide
end Go.Proofs.Ytanmddenleffaaa
namespace Go.Proofs.Ytanmddenleffaaa
theorem partF_at (S : Nat → Int) (a k : Nat) (h : a + k < 24) : partF S a k = S (a + k) := by
  unfold partF
  rw [if_pos (by omega), show ((a : Int) + (k : Int)).toNat = a + k by omega]
theorem box_at (i : Nat) : (i < 10 → 4 ≤ i → 549755813888 ≤ boxF i) ∧ (7 ≤ i → i < 10 → boxF i = 9007199254740992) ∧ (10 ≤ i → i < 13 → boxF i = 134217728) ∧ (13 ≤ i → i < 16 → boxF i = 1073741824) ∧ 134217728 ≤ boxF i := by
  unfold boxF
  repeat' split
  all_goals omega
end Go.Proofs.Ytanmddenleffaaa
namespace Go.Proofs.Ytanmddenleffaaa
theorem rs_good {S : Nat → Int} (u : UnitQ S) (hb : ∀ i, 4 ≤ i → i < 24 → -(boxF i) ≤ S i ∧ S i ≤ boxF i) : goodB S = true := by
  unfold goodB
  rw [Bool.and_eq_true]
  refine ⟨boxQ_iff.2 fun i hi => ?_, (unitB_iff S).2 u⟩
  by_cases h : i < 4
  · rw [boxF_lo h]; exact u.1 i h
  · exact hb i (by omega) hi
theorem rs_va {L : Nat → Nat → Int} {n k : Nat} {y : Int} (hn : n ≤ 3) (hb : ∀ j, j < n → SB (L j k)) (e : sumS (fun j => L j k) n = y) (hy : SB y) : vaV L n k = y ∧ vaH L n k = false := by
  have b : sumB (fun j => L j k) n = false := by
    have : ∀ m, m ≤ n → sumB (fun j => L j k) m = false := by
      intro m
      induction m with
      | zero => intro _; rfl
      | succ m ih => intro hm; simp only [sumB]; rw [ih (by omega), satH_sb (hb m (by omega))]; rfl
    exact this n (Nat.le_refl _)
  unfold vaV vaH
  rw [e, b, satV_sb hy, satH_sb hy]; exact ⟨rfl, rfl⟩
theorem q4_bd {a b c d B : Int} (ha : -B ≤ a ∧ a ≤ B) (hb : -B ≤ b ∧ b ≤ B) (hc : -B ≤ c ∧ c ≤ B) (hd : -B ≤ d ∧ d ≤ B) : ∀ i, i < 4 → -B ≤ q4 a b c d i ∧ q4 a b c d i ≤ B := fun i _ => by
  unfold q4
  split
  · exact ha
  · split
    · exact hb
    · split
      · exact hc
      · exact hd
theorem rs_dot {A B : Nat → Int} (hA : ∀ i, i < 4 → -1073741840 ≤ A i ∧ A i ≤ 1073741840) (hB : ∀ i, i < 4 → -1073741840 ≤ B i ∧ B i ≤ 1073741840) : dotH 30 A B 4 = false := by
  have sA : ∀ i, i < 4 → SB (A i) := fun i hi => by have := hA i hi; unfold SB; omega
  have sB : ∀ i, i < 4 → SB (B i) := fun i hi => by have := hB i hi; unfold SB; omega
  have m : ∀ i, i < 4 → -(1073741840 * 1073741840) ≤ A i * B i ∧ A i * B i ≤ 1073741840 * 1073741840 := fun i hi => mul_bd (hA i hi) (hB i hi)
  have m0 := m 0 (by decide)
  have m1 := m 1 (by decide)
  have m2 := m 2 (by decide)
  have m3 := m 3 (by decide)
  unfold dotH
  rw [if_neg (by decide)]
  simp only [dotB, dotS]
  rw [satH_sb (sA 0 (by decide)), satH_sb (sA 1 (by decide)), satH_sb (sA 2 (by decide)), satH_sb (sA 3 (by decide)), satH_sb (sB 0 (by decide)), satH_sb (sB 1 (by decide)), satH_sb (sB 2 (by decide)), satH_sb (sB 3 (by decide)),
    satV_sb (sA 0 (by decide)), satV_sb (sA 1 (by decide)), satV_sb (sA 2 (by decide)), satV_sb (sA 3 (by decide)), satV_sb (sB 0 (by decide)), satV_sb (sB 1 (by decide)), satV_sb (sB 2 (by decide)), satV_sb (sB 3 (by decide))]
  have r := rsh_err (0 + A 0 * B 0 + A 1 * B 1 + A 2 * B 2 + A 3 * B 3)
  rw [show (30 : Int).toNat = 30 from rfl]
  generalize A 0 * B 0 = x0 at *
  generalize A 1 * B 1 = x1 at *
  generalize A 2 * B 2 = x2 at *
  generalize A 3 * B 3 = x3 at *
  generalize rsh (0 + x0 + x1 + x2 + x3) 30 = z at *
  rw [satH_no (by omega) (by omega)]
  rfl
theorem ro_calm {S : Nat → Int} (u : UnitQ S) : roH S = false := by
  have b : ∀ i, i < 4 → -1073741840 ≤ satA S i ∧ satA S i ≤ 1073741840 := fun i hi => by
    have := u.1 i hi
    unfold satA; rw [satV_id (by omega) (by omega)]; exact this
  obtain ⟨F, hF⟩ : ∃ F, satA S = F := ⟨_, rfl⟩
  unfold roH
  rw [hF] at b ⊢
  have b0 := b 0 (by decide)
  have b1 := b 1 (by decide)
  have b2 := b 2 (by decide)
  have b3 := b 3 (by decide)
  have nb : ∀ {x : Int}, -1073741840 ≤ x ∧ x ≤ 1073741840 → -1073741840 ≤ -x ∧ -x ≤ 1073741840 := fun h => by omega
  rw [orB_noB fun i hi => satH_no (by have := u.1 i hi; omega) (by have := u.1 i hi; omega), orB_noB fun k _ => by
    unfold roNH
    refine rs_dot ?_ ?_
    · unfold roA
      split <;> first | exact b | (refine q4_bd ?_ ?_ ?_ ?_ <;> first | assumption | exact nb b0)
    · unfold roB
      split <;> (refine q4_bd ?_ ?_ ?_ ?_ <;> first | assumption | exact nb b1 | exact nb b2 | exact nb b3)]
  rfl
theorem stS_at (S P : Nat → Int) : (∀ i, i < 4 → stS S P i = stQ S P i) ∧ (∀ k, k < 3 → stS S P (4 + k) = stN S P k) ∧ (∀ k, k < 3 → stS S P (7 + k) = stX S P k) ∧ (∀ i, 10 ≤ i → stS S P i = S i) := by
  unfold stS withF
  refine ⟨fun i hi => ?_, fun k hk => ?_, fun k hk => ?_, fun i hi => ?_⟩
  · rw [if_neg (by omega), if_neg (by omega), if_pos (by omega), show ((i : Int) - 0).toNat = i by omega]
  · rw [if_neg (by omega), if_pos (by omega), show (((4 + k : Nat) : Int) - 4).toNat = k by omega]
  · rw [if_pos (by omega), show (((7 + k : Nat) : Int) - 7).toNat = k by omega]
  · rw [if_neg (by omega), if_neg (by omega), if_neg (by omega)]
end Go.Proofs.Ytanmddenleffaaa
namespace Go.Proofs.Ytanmddenleffaaa
def sg (f : Nat → Int) : Nat → Int | 0 => 0 | n + 1 => sg f n + f n
theorem sg_congr {f g : Nat → Int} : ∀ {n : Nat}, (∀ k, k < n → f k = g k) → sg f n = sg g n
  | 0, _ => rfl
  | n + 1, h => by unfold sg; rw [sg_congr (n := n) fun k hk => h k (by omega), h n (by omega)]
theorem sg_le {f g : Nat → Int} : ∀ {n : Nat}, (∀ k, k < n → f k ≤ g k) → sg f n ≤ sg g n
  | 0, _ => Int.le_refl _
  | n + 1, h => by
    have h1 := sg_le (n := n) fun k hk => h k (by omega)
    have h2 := h n (by omega)
    unfold sg; omega
theorem sg_abs {f g : Nat → Int} : ∀ {n : Nat}, (∀ k, k < n → -(g k) ≤ f k ∧ f k ≤ g k) → -(sg g n) ≤ sg f n ∧ sg f n ≤ sg g n
  | 0, _ => by unfold sg; omega
  | n + 1, h => by
    have h1 := sg_abs (n := n) fun k hk => h k (by omega)
    have h2 := h n (by omega)
    unfold sg; omega
theorem sg_nonneg {f : Nat → Int} : ∀ {n : Nat}, (∀ k, k < n → 0 ≤ f k) → 0 ≤ sg f n
  | 0, _ => Int.le_refl _
  | n + 1, h => by
    have h1 := sg_nonneg (n := n) fun k hk => h k (by omega)
    have h2 := h n (by omega)
    unfold sg; omega
theorem sg_const (c : Int) : ∀ n : Nat, sg (fun _ => c) n = n * c
  | 0 => by simp [sg]
  | n + 1 => by unfold sg; rw [sg_const c n, Int.natCast_add, Int.add_mul]; simp
theorem sg_mul (c : Int) (f : Nat → Int) : ∀ n : Nat, sg (fun k => c * f k) n = c * sg f n
  | 0 => by simp [sg]
  | n + 1 => by unfold sg; rw [sg_mul c f n, Int.mul_add]
theorem sg_add (f g : Nat → Int) : ∀ n : Nat, sg (fun k => f k + g k) n = sg f n + sg g n
  | 0 => rfl
  | n + 1 => by unfold sg; rw [sg_add f g n]; omega
/-- One number among nonnegative ones. -/
theorem sg_one {f : Nat → Int} {a : Nat} : ∀ {n : Nat}, a < n → (∀ k, k < n → 0 ≤ f k) → f a ≤ sg f n
  | 0, h, _ => absurd h (Nat.not_lt_zero _)
  | n + 1, h, h0 => by
    unfold sg
    have h2 := h0 n (by omega)
    by_cases e : a = n
    · subst e
      have := sg_nonneg (n := a) fun k hk => h0 k (by omega)
      omega
    · have := sg_one (a := a) (n := n) (by omega) fun k hk => h0 k (by omega)
      omega
def ab (x : Int) : Int := (x.natAbs : Int)
theorem ab_bd (x : Int) : 0 ≤ ab x ∧ -(ab x) ≤ x ∧ x ≤ ab x := by unfold ab; omega
theorem ab_mul (x y : Int) : ab (x * y) = ab x * ab y := by unfold ab; rw [Int.natAbs_mul, Int.natCast_mul]
theorem ab_le {x k : Int} (h : ab x ≤ k) : -k ≤ x ∧ x ≤ k := by unfold ab at h; omega
theorem le_ab {x k : Int} (h : -k ≤ x ∧ x ≤ k) : ab x ≤ k := by unfold ab; omega
theorem ab_add (x y : Int) : ab (x + y) ≤ ab x + ab y := by unfold ab; omega
theorem ab_neg (x : Int) : ab (-x) = ab x := by unfold ab; omega
theorem sg_ab (f : Nat → Int) : ∀ n : Nat, ab (sg f n) ≤ sg (fun k => ab (f k)) n
  | 0 => by simp [sg, ab]
  | n + 1 => by
    have h := sg_ab f n
    have := ab_add (sg f n) (f n)
    unfold sg; omega
/-- The sum of products of two rows, weighted. -/
def gr (a b e : Nat → Int) : Int := sg (fun k => a k * b k * e k) 48
theorem el_id (a b v e r s ρ σ O u t : Int) (h1 : O * r = u * v + ρ) (h2 : O * s = t * v + σ) :
    O * O * ((a - r) * (b - s) * e) = O * O * (a * b * e) - O * u * (b * v * e) - O * t * (a * v * e) + u * t * (v * v * e) - O * (ρ * (b - s) * e) - O * (σ * (a - r) * e) - ρ * σ * e := by
  obtain rfl : ρ = O * r - u * v := by omega
  obtain rfl : σ = O * s - t * v := by omega
  grind
theorem el_sum (a b v e r s ρ σ : Nat → Int) (O u t : Int) : ∀ n : Nat, (∀ k, k < n → O * r k = u * v k + ρ k) → (∀ k, k < n → O * s k = t * v k + σ k) →
    O * O * sg (fun k => (a k - r k) * (b k - s k) * e k) n = O * O * sg (fun k => a k * b k * e k) n - O * u * sg (fun k => b k * v k * e k) n - O * t * sg (fun k => a k * v k * e k) n + u * t * sg (fun k => v k * v k * e k) n
      - O * sg (fun k => ρ k * (b k - s k) * e k) n - O * sg (fun k => σ k * (a k - r k) * e k) n - sg (fun k => ρ k * σ k * e k) n
  | 0, _, _ => by simp [sg]
  | n + 1, h1, h2 => by
    have ih := el_sum a b v e r s ρ σ O u t n (fun k hk => h1 k (by omega)) (fun k hk => h2 k (by omega))
    have hn := el_id (a n) (b n) (v n) (e n) (r n) (s n) (ρ n) (σ n) O u t (h1 n (by omega)) (h2 n (by omega))
    simp only [sg, Int.mul_add]
    omega
/-- What is left of two rows, told by what they were and the multiples that were taken away. -/
theorem el_core {a b v e r s ρ σ : Nat → Int} {O u t d εa εb εv : Int} (hr : ∀ k, k < 48 → O * r k = u * v k + ρ k) (hs : ∀ k, k < 48 → O * s k = t * v k + σ k)
    (hA : gr a v e = O * d * u - εa) (hB : gr b v e = O * d * t - εb) (hV : gr v v e = O * O * d - εv) :
    O * O * gr (fun k => a k - r k) (fun k => b k - s k) e = O * O * gr a b e - O * O * (u * t * d) + O * (u * εb) + O * (t * εa) - u * t * εv
      - O * sg (fun k => ρ k * (b k - s k) * e k) 48 - O * sg (fun k => σ k * (a k - r k) * e k) 48 - sg (fun k => ρ k * σ k * e k) 48 := by
  have h := el_sum a b v e r s ρ σ O u t 48 hr hs
  unfold gr at *
  rw [hA, hB, hV] at h
  generalize sg (fun k => (a k - r k) * (b k - s k) * e k) 48 = X at *
  generalize sg (fun k => a k * b k * e k) 48 = Y at *
  generalize sg (fun k => ρ k * (b k - s k) * e k) 48 = Z1 at *
  generalize sg (fun k => σ k * (a k - r k) * e k) 48 = Z2 at *
  generalize sg (fun k => ρ k * σ k * e k) 48 = Z3 at *
  grind
/-- A sum of products with numbers up to m. -/
theorem sg_bd {x y : Nat → Int} {m : Int} {n : Nat} (h : ∀ k, k < n → ab (x k) ≤ m) : ab (sg (fun k => x k * y k) n) ≤ m * sg (fun k => ab (y k)) n := by
  rw [← sg_mul]
  refine Int.le_trans (sg_ab _ _) (sg_le fun k hk => ?_)
  rw [ab_mul]
  exact Int.mul_le_mul_of_nonneg_right (h k hk) (ab_bd _).1
theorem sq_nn (x : Int) : 0 ≤ x * x := by
  by_cases h : 0 ≤ x
  · exact Int.mul_nonneg h h
  · have := Int.mul_nonneg (a := -x) (b := -x) (by omega) (by omega)
    rwa [Int.neg_mul_neg] at this
/-- Products of two rows, by their squares: 2 t x y is at most x x + t t y y. -/
theorem gr_two (a b e : Nat → Int) (he : ∀ k, k < 48 → 0 ≤ e k) (t : Int) : ab (2 * t * gr a b e) ≤ gr a a e + t * t * gr b b e := by
  have h1 : ∀ k, k < 48 → -(a k * a k * e k + t * t * (b k * b k * e k)) ≤ 2 * t * (a k * b k * e k) ∧ 2 * t * (a k * b k * e k) ≤ a k * a k * e k + t * t * (b k * b k * e k) := by
    intro k hk
    have p := Int.mul_nonneg (sq_nn (a k - t * b k)) (he k hk)
    have q := Int.mul_nonneg (sq_nn (a k + t * b k)) (he k hk)
    grind
  have h2 := sg_abs h1
  rw [sg_mul, sg_add, sg_mul] at h2
  exact le_ab h2
theorem cl_rshmul (e : Int) : rsh (1073741824 * e) 30 = e := by
  have h2 : ((2 : Int) ^ 30) = 1073741824 := by decide
  unfold rsh rdiv
  rw [h2]
  have : (1073741824 * e).natAbs = 1073741824 * e.natAbs := by rw [Int.natAbs_mul]; rfl
  rw [this, show (1073741824 : Int).natAbs = 1073741824 from rfl]
  have e1 : (2 * (1073741824 * e.natAbs) + 1073741824) / (2 * 1073741824) = e.natAbs := by omega
  rw [e1]
  by_cases he : 0 ≤ e
  · rw [if_pos (by simp; omega)]; omega
  · rw [if_neg (by simp; omega)]; omega
theorem cl_varV {a : Int} (h : 1 ≤ a) (h' : a ≤ 72057594037927936) : varV a = a ∧ varH a = false := by
  constructor
  · unfold varV clampV; rw [if_neg (by omega), if_neg (by omega), if_neg (by omega)]
  · unfold varH clampH; simp; omega
theorem cl_subV {a b : Int} (ha : SB a) (hb : SB b) (h : SB (a - b)) : subV a b = a - b ∧ subH a b = false := by
  unfold subV subH
  rw [satV_sb ha, satV_sb hb, satV_sb h, satH_sb ha, satH_sb hb, satH_sb h]; exact ⟨rfl, rfl⟩
theorem cl_rdivnn {x d : Int} (hx : 0 ≤ x) (hd : 0 < d) : 0 ≤ rdiv x d := by
  unfold rdiv
  rw [if_pos (by simp [hx, hd])]; exact Int.natCast_nonneg _
theorem cl_divV {a b : Int} (ha : SB a) (hb : SB b) (h0 : b ≠ 0) (h : SB (rdiv (a * 1073741824) b)) : divV a b 30 = rdiv (a * 1073741824) b ∧ divH a b 30 = false := by
  have e : (2 : Int) ^ (30 : Int).toNat = 1073741824 := by decide
  unfold divV divH byV byH
  rw [if_neg (by decide), satV_sb ha, satV_sb hb, e, satV_sb h, satH_sb ha, satH_sb hb, satH_sb h, if_neg h0]
  refine ⟨rfl, ?_⟩
  simp; exact h0
theorem cl_rshnp {x : Int} (h : x ≤ 0) : rsh x 30 ≤ 0 := by
  have := rsh_err x
  omega
theorem cl_rshnn {x : Int} (h : 0 ≤ x) : 0 ≤ rsh x 30 := cl_rdivnn h (by decide)
theorem cl_rdiv0 {d : Int} (h : d ≠ 0) : rdiv 0 d = 0 := by
  unfold rdiv
  have : (2 * (0 : Int).natAbs + d.natAbs) / (2 * d.natAbs) = 0 := Nat.div_eq_of_lt (by have := Int.natAbs_pos.2 h; simp; omega)
  rw [this]
  split <;> rfl
end Go.Proofs.Ytanmddenleffaaa
namespace Go.Proofs.Ytanmddenleffaaa
theorem rsh_ab {x m : Int} (h : ab x ≤ 1073741824 * m) : ab (rsh x 30) ≤ m := by
  have e := rsh_err x
  have := ab_le h
  exact le_ab (by omega)
theorem rsh_two (x : Int) : 2 * ab (1073741824 * rsh x 30 - x) ≤ 1073741824 := by
  have e := rsh_err x
  unfold ab; omega
theorem sb_ab {x m : Int} (h : ab x ≤ m) (hm : m ≤ 1152921504606846976) : SB x := by
  have := ab_le h
  unfold SB; omega
theorem dotS_sg {A B : Nat → Int} : ∀ {n : Nat}, (∀ k, k < n → SB (A k) ∧ SB (B k)) → dotS A B n = sg (fun k => A k * B k) n ∧ dotB A B n = false
  | 0, _ => ⟨rfl, rfl⟩
  | n + 1, h => by
    have ih := dotS_sg (n := n) fun k hk => h k (by omega)
    have hn := h n (by omega)
    unfold dotS dotB sg
    rw [ih.1, ih.2, satV_sb hn.1, satV_sb hn.2, satH_sb hn.1, satH_sb hn.2]
    exact ⟨rfl, rfl⟩
theorem dotV_sg {A B : Nat → Int} {n : Nat} (h : ∀ k, k < n → SB (A k) ∧ SB (B k)) (hs : SB (rsh (sg (fun k => A k * B k) n) 30)) : dotV 30 A B n = rsh (sg (fun k => A k * B k) n) 30 ∧ dotH 30 A B n = false := by
  have d := dotS_sg h
  unfold dotV dotH
  rw [if_neg (by decide), if_neg (by decide), d.1, d.2, show (30 : Int).toNat = 30 from rfl, satV_sb hs, satH_sb hs]
  exact ⟨rfl, rfl⟩
/-- The weights. -/
def WtB (e : Nat → Int) : Prop := ∀ k, k < 48 → 0 ≤ e k ∧ e k ≤ 22000000000000
/-- The rows up to j: the sum of their numbers' sizes, and their squares' sums. -/
def RwB (W e : Nat → Int) (j : Nat) : Prop := ∀ i, i ≤ j → sg (fun k => ab (W (i * 48 + k))) 48 ≤ 50000000000000 ∧ gr (rowF 48 W i) (rowF 48 W i) e ≤ 50706024009129176059868128215040
section
variable {W e : Nat → Int} {j : Nat} (he : WtB e) (hW : RwB W e j)
include hW in
theorem rw_ent {i k : Nat} (hi : i ≤ j) (hk : k < 48) : ab (W (i * 48 + k)) ≤ 50000000000000 := by
  have := sg_one (f := fun k => ab (W (i * 48 + k))) hk fun k _ => (ab_bd _).1
  have := (hW i hi).1
  omega
include he hW in
theorem st_y {k : Nat} (hk : k < 48) : stY W e j k = rsh (W (j * 48 + k) * e k) 30 ∧ yB W e j k = false ∧ SB (stY W e j k) := by
  have h1 := rw_ent hW (Nat.le_refl j) hk
  have h2 := he k hk
  have h3 : ab (W (j * 48 + k) * e k) ≤ 1073741824 * 1152921504606846976 := by
    rw [ab_mul]
    have : ab (e k) ≤ 22000000000000 := le_ab (by omega)
    exact Int.le_trans (Int.mul_le_mul h1 this (ab_bd _).1 (by decide)) (by decide)
  have h4 := sb_ab (rsh_ab h3) (Int.le_refl _)
  have m := mulV_of (sb_ab h1 (by decide)) (show SB (e k) by unfold SB; omega) h4
  unfold stY yB
  exact ⟨m.1, m.2, by rw [m.1]; exact h4⟩
/-- The products of a row with y: told by the weighted sum of products, within the roundings. -/
theorem y_err (he : WtB e) (hW : RwB W e j) {i : Nat} (hi : i ≤ j) :
    2 * ab (1073741824 * sg (fun k => W (i * 48 + k) * stY W e j k) 48 - gr (rowF 48 W i) (rowF 48 W j) e) ≤ 1073741824 * 70368744177664 := by
  have h1 : 1073741824 * sg (fun k => W (i * 48 + k) * stY W e j k) 48 = sg (fun k => (1073741824 * stY W e j k - W (j * 48 + k) * e k) * W (i * 48 + k)) 48 + gr (rowF 48 W i) (rowF 48 W j) e := by
    unfold gr rowF
    rw [← sg_mul, ← sg_add]
    refine sg_congr fun k _ => ?_
    grind
  rw [h1, Int.add_sub_cancel]
  have h2 : ∀ k, k < 48 → ab (2 * (1073741824 * stY W e j k - W (j * 48 + k) * e k)) ≤ 1073741824 := fun k hk => by
    rw [(st_y he hW hk).1, ab_mul, show ab 2 = 2 from rfl]
    exact rsh_two (W (j * 48 + k) * e k)
  have h3 := sg_bd (y := fun k => W (i * 48 + k)) h2
  rw [show (fun k => 2 * (1073741824 * stY W e j k - W (j * 48 + k) * e k) * W (i * 48 + k)) = (fun k => 2 * ((1073741824 * stY W e j k - W (j * 48 + k) * e k) * W (i * 48 + k))) from funext fun k => Int.mul_assoc _ _ _, sg_mul, ab_mul] at h3
  have h4 := (hW i hi).1
  exact Int.le_trans h3 (by omega)
include he in
theorem gr_nonneg (a : Nat → Int) : 0 ≤ gr a a e := sg_nonneg fun k hk => Int.mul_nonneg (sq_nn (a k)) (he k hk).1
include he hW in
/-- The variance of row j. -/
theorem st_d (hd : ∃ k, k < 48 ∧ W (j * 48 + k) = 1073741824 ∧ 17179869184 ≤ e k) :
    2 * ab (1152921504606846976 * stD W e j - gr (rowF 48 W j) (rowF 48 W j) e) ≤ 75559016647418930266112 ∧ 17179869184 ≤ stD W e j ∧ stD W e j ≤ 43980465190000 ∧ dB W e j = false := by
  have hy := y_err he hW (Nat.le_refl j)
  have hg := (hW j (Nat.le_refl j)).2
  have h0 := gr_nonneg he (rowF 48 W j)
  have hr := rsh_err (sg (fun k => W (j * 48 + k) * stY W e j k) 48)
  have hlow : 1073741824 * 17179869184 ≤ sg (fun k => W (j * 48 + k) * stY W e j k) 48 := by
    obtain ⟨k, hk, h1, h2⟩ := hd
    have h3 : ∀ k, k < 48 → 0 ≤ W (j * 48 + k) * stY W e j k := fun k hk => by
      rw [(st_y he hW hk).1]
      by_cases hs : 0 ≤ W (j * 48 + k)
      · exact Int.mul_nonneg hs (cl_rshnn (Int.mul_nonneg hs (he k hk).1))
      · exact Int.mul_nonneg_of_nonpos_of_nonpos (by omega) (cl_rshnp (Int.mul_nonpos_of_nonpos_of_nonneg (by omega) (he k hk).1))
    have h4 := sg_one hk h3
    rw [h1, (st_y he hW hk).1, h1, cl_rshmul] at h4
    have := Int.mul_le_mul_of_nonneg_left h2 (show (0 : Int) ≤ 1073741824 by decide)
    omega
  obtain ⟨S, hS⟩ : ∃ S, sg (fun k => W (j * 48 + k) * stY W e j k) 48 = S := ⟨_, rfl⟩
  rw [hS] at hy hr hlow
  obtain ⟨G, hG⟩ : ∃ G, gr (rowF 48 W j) (rowF 48 W j) e = G := ⟨_, rfl⟩
  rw [hG] at hy hg h0 ⊢
  have hy' := ab_le (show ab (1073741824 * S - G) ≤ 37778931862957161709568 by omega)
  have d0 : 17179869184 ≤ rsh S 30 := by omega
  have d1 : rsh S 30 ≤ 43980465190000 := by omega
  have dv := dotV_sg (A := rowF 48 W j) (B := stY W e j) (n := 48) (fun k hk => ⟨sb_ab (rw_ent hW (Nat.le_refl j) hk) (by decide), (st_y he hW hk).2.2⟩) (by unfold rowF; rw [hS]; unfold SB; omega)
  have dv1 : dotV 30 (rowF 48 W j) (stY W e j) 48 = rsh S 30 := by rw [dv.1]; unfold rowF; rw [hS]
  have vv := cl_varV (a := rsh S 30) (by omega) (by omega)
  have hD : stD W e j = rsh S 30 := by unfold stD; rw [dv1, vv.1]
  refine ⟨?_, by rw [hD]; exact d0, by rw [hD]; exact d1, ?_⟩
  · rw [hD]
    have : ab (1152921504606846976 * rsh S 30 - G) ≤ 37779508323709465133056 := le_ab (by omega)
    omega
  · unfold dB; rw [dv.2, dv1, vv.2]; rfl
include he hW in
/-- The multiple of row j in row i. -/
theorem st_u (hd : ∃ k, k < 48 ∧ W (j * 48 + k) = 1073741824 ∧ 17179869184 ≤ e k) {i : Nat} (hi : i < j) :
    2 * ab (1073741824 * stD W e j * stU W e j i - gr (rowF 48 W i) (rowF 48 W j) e) ≤ 75559016647418930266112 + 1073741824 * stD W e j ∧ ab (stU W e j i) ≤ 56908316672 ∧ uB W e j i = false := by
  have ⟨hv, d0, d1, _⟩ := st_d he hW hd
  have hy := y_err he hW (Nat.le_of_lt hi)
  have hr := rsh_err (sg (fun k => W (i * 48 + k) * stY W e j k) 48)
  have h2 := gr_two (rowF 48 W i) (rowF 48 W j) e (fun k hk => (he k hk).1) 64
  have gi := (hW i (Nat.le_of_lt hi)).2
  have gj := (hW j (Nat.le_refl j)).2
  have g0 := gr_nonneg he (rowF 48 W i)
  obtain ⟨S, hS⟩ : ∃ S, sg (fun k => W (i * 48 + k) * stY W e j k) 48 = S := ⟨_, rfl⟩
  rw [hS] at hy hr
  obtain ⟨V, hV⟩ : ∃ G, gr (rowF 48 W j) (rowF 48 W j) e = G := ⟨_, rfl⟩
  obtain ⟨A, hA⟩ : ∃ G, gr (rowF 48 W i) (rowF 48 W j) e = G := ⟨_, rfl⟩
  obtain ⟨G, hG⟩ : ∃ G, gr (rowF 48 W i) (rowF 48 W i) e = G := ⟨_, rfl⟩
  rw [hV] at hv h2 gj
  rw [hG] at gi h2 g0
  rw [hA] at hy h2 ⊢
  obtain ⟨D, hD⟩ : ∃ D, stD W e j = D := ⟨_, rfl⟩
  rw [hD] at hv d0 d1 ⊢
  have hy' := ab_le (show ab (1073741824 * S - A) ≤ 37778931862957161709568 by omega)
  have hv' := ab_le (show ab (1152921504606846976 * D - V) ≤ 37779508323709465133056 by omega)
  have h2' := ab_le h2
  have pb : -1152921504606846976 ≤ rsh S 30 ∧ rsh S 30 ≤ 1152921504606846976 := by omega
  have dv := dotV_sg (A := rowF 48 W i) (B := stY W e j) (n := 48) (fun k hk => ⟨sb_ab (rw_ent hW (Nat.le_of_lt hi) hk) (by decide), (st_y he hW hk).2.2⟩) (by unfold rowF; rw [hS]; exact pb)
  have dv1 : dotV 30 (rowF 48 W i) (stY W e j) 48 = rsh S 30 := by rw [dv.1]; unfold rowF; rw [hS]
  have q := rdiv_err (x := rsh S 30 * 1073741824) (d := D) (by omega)
  obtain ⟨u, hu⟩ : ∃ u, rdiv (rsh S 30 * 1073741824) D = u := ⟨_, rfl⟩
  rw [hu] at q
  obtain ⟨x, hx⟩ : ∃ x, D * u = x := ⟨_, rfl⟩
  have ub : ab u ≤ 56908316672 := by
    refine Decidable.byContradiction fun hc => ?_
    have m1 := Int.mul_le_mul_of_nonneg_left (show 56908316673 ≤ ab u by omega) (show 0 ≤ D by omega)
    have m2 : D * ab u = ab x := by rw [← hx, ab_mul]; congr 1; unfold ab; omega
    rw [m2] at m1
    rw [hx] at q
    have : ab x = x ∨ ab x = -x := by unfold ab; omega
    omega
  have du := cl_divV (a := rsh S 30) (b := D) pb (by unfold SB; omega) (by omega) (by rw [hu]; exact sb_ab ub (by decide))
  have hU : stU W e j i = u := by unfold stU; rw [dv1, hD, du.1, hu]
  rw [hU]
  refine ⟨?_, ub, ?_⟩
  · rw [Int.mul_assoc, hx]
    rw [hx] at q
    have : ab (1073741824 * x - A) ≤ 37779508323709465133056 + 536870912 * D := le_ab (by omega)
    omega
  · unfold uB; rw [dv.2, dv1, hD, du.2]; rfl
include hW in
/-- What is left of row i. -/
theorem st_w {i k : Nat} (hi : i < j) (hk : k < 48) {u : Int} (hu : ab u ≤ 56908316672) : elV W u j i k = W (i * 48 + k) - rsh (u * W (j * 48 + k)) 30 ∧ elB W u j i k = false := by
  have h1 := rw_ent hW (Nat.le_refl j) hk
  have h2 := rw_ent hW (Nat.le_of_lt hi) hk
  have h3 : ab (u * W (j * 48 + k)) ≤ 1073741824 * 3729543441416192 := by
    rw [ab_mul]
    exact Int.le_trans (Int.mul_le_mul hu h1 (ab_bd _).1 (by decide)) (by decide)
  have h4 := rsh_ab h3
  have m := mulV_of (sb_ab hu (by decide)) (sb_ab h1 (by decide)) (sb_ab h4 (by decide))
  have h5 := ab_le h4
  have h6 := ab_le h2
  have s := cl_subV (a := W (i * 48 + k)) (b := rsh (u * W (j * 48 + k)) 30) (sb_ab h2 (by decide)) (sb_ab h4 (by decide)) (by unfold SB; omega)
  unfold elV elB
  rw [m.1, m.2, s.1, s.2]
  exact ⟨rfl, rfl⟩
end
end Go.Proofs.Ytanmddenleffaaa
namespace Go.Proofs.Ytanmddenleffaaa
theorem sg_wt {e : Nat → Int} (he : WtB e) : 0 ≤ sg e 48 ∧ sg e 48 ≤ 1056000000000000 := by
  refine ⟨sg_nonneg fun k hk => (he k hk).1, ?_⟩
  have h := sg_le (f := e) (g := fun _ => 22000000000000) (n := 48) fun k hk => (he k hk).2
  rw [sg_const] at h
  exact Int.le_trans h (by decide)
/-- Roundings times a row: by the row's square and the weights. -/
theorem rnd_row {e ρ b : Nat → Int} (he : WtB e) (hρ : ∀ k, k < 48 → 2 * ab (ρ k) ≤ 1073741824) : 4 * ab (sg (fun k => ρ k * b k * e k) 48) ≤ gr b b e + 1152921504606846976 * sg e 48 := by
  have h1 : ∀ k, k < 48 → -(b k * b k * e k + 1152921504606846976 * e k) ≤ 4 * (ρ k * b k * e k) ∧ 4 * (ρ k * b k * e k) ≤ b k * b k * e k + 1152921504606846976 * e k := by
    intro k hk
    have e0 := (he k hk).1
    have q := hρ k hk
    have p1 : ab (ρ k * b k) ≤ 536870912 * ab (b k) := by rw [ab_mul]; exact Int.mul_le_mul_of_nonneg_right (by omega) (ab_bd _).1
    have p2 := sq_nn (ab (b k) - 1073741824)
    have p3 : ab (b k) * ab (b k) = b k * b k := by
      rcases (show ab (b k) = b k ∨ ab (b k) = -(b k) by unfold ab; omega) with h | h <;> rw [h]
      exact Int.neg_mul_neg _ _
    have p4 : 4 * ab (ρ k * b k) ≤ b k * b k + 1152921504606846976 := by
      have : (ab (b k) - 1073741824) * (ab (b k) - 1073741824) = ab (b k) * ab (b k) - 2147483648 * ab (b k) + 1152921504606846976 := by grind
      omega
    have p5 := Int.mul_le_mul_of_nonneg_right p4 e0
    have p6 : ab (ρ k * b k * e k) = ab (ρ k * b k) * e k := by rw [ab_mul (ρ k * b k)]; congr 1; unfold ab; omega
    have p7 : 4 * ab (ρ k * b k * e k) ≤ b k * b k * e k + 1152921504606846976 * e k := by rw [p6]; rw [Int.mul_assoc, Int.add_mul] at p5; exact p5
    have := ab_bd (ρ k * b k * e k)
    omega
  have h2 := sg_abs h1
  rw [sg_mul, sg_add, sg_mul] at h2
  have : gr b b e = sg (fun k => b k * b k * e k) 48 := rfl
  unfold ab
  omega
theorem rnd_rnd {e ρ σ : Nat → Int} (he : WtB e) (hρ : ∀ k, k < 48 → 2 * ab (ρ k) ≤ 1073741824) (hσ : ∀ k, k < 48 → 2 * ab (σ k) ≤ 1073741824) : ab (sg (fun k => ρ k * σ k * e k) 48) ≤ 288230376151711744 * sg e 48 := by
  have h1 : ∀ k, k < 48 → ab (ρ k * σ k) ≤ 288230376151711744 := fun k hk => by
    rw [ab_mul]
    have a := hρ k hk
    have b := hσ k hk
    exact Int.le_trans (Int.mul_le_mul (show ab (ρ k) ≤ 536870912 by omega) (show ab (σ k) ≤ 536870912 by omega) (ab_bd _).1 (by decide)) (by decide)
  have h2 := sg_bd (y := e) h1
  rwa [show sg (fun k => ab (e k)) 48 = sg e 48 from sg_congr fun k hk => by have := (he k hk).1; unfold ab; omega] at h2
theorem ab_mul2 {u x U X : Int} (hu : ab u ≤ U) (hx : 2 * ab x ≤ X) : 2 * ab (u * x) ≤ U * X := by
  have h0 := (ab_bd u).1
  have h1 := (ab_bd x).1
  have h2 := Int.mul_le_mul hu hx (by omega) (by omega)
  rw [ab_mul]
  have : ab u * (2 * ab x) = 2 * (ab u * ab x) := by grind
  omega
section
variable {W e : Nat → Int} {j : Nat} (he : WtB e) (hW : RwB W e j) (hd : ∃ k, k < 48 ∧ W (j * 48 + k) = 1073741824 ∧ 17179869184 ≤ e k)
/-- What is taken away from row i. -/
def tkR (W e : Nat → Int) (j i : Nat) : Nat → Int := fun k => rsh (stU W e j i * W (j * 48 + k)) 30
def lfR (W e : Nat → Int) (j i : Nat) : Nat → Int := fun k => rowF 48 W i k - tkR W e j i k
include he hW hd in
theorem pair_raw {i l : Nat} (hi : i < j) (hl : l < j) : ∃ Z1 Z2 Z3 X1 X2 X3 : Int,
    1073741824 * 1073741824 * (gr (lfR W e j i) (lfR W e j l) e - gr (rowF 48 W i) (rowF 48 W l) e + stU W e j i * stU W e j l * stD W e j) = 1073741824 * X1 + 1073741824 * X2 - X3 - 1073741824 * Z1 - 1073741824 * Z2 - Z3 ∧
    2 * ab X1 ≤ 56908316672 * 122782681640000000000000 ∧ 2 * ab X2 ≤ 56908316672 * 122782681640000000000000 ∧ 2 * ab X3 ≤ 3238556506440633155584 * 75559016647418930266112 ∧
    4 * ab Z1 ≤ gr (lfR W e j l) (lfR W e j l) e + 1217485108864830406656000000000000 ∧ 4 * ab Z2 ≤ gr (lfR W e j i) (lfR W e j i) e + 1217485108864830406656000000000000 ∧ ab Z3 ≤ 304371277216207601664000000000000 := by
  have ⟨hv, d0, d1, _⟩ := st_d he hW hd
  have hu := st_u he hW hd hi
  have ht := st_u he hW hd hl
  obtain ⟨E0, E1⟩ := sg_wt he
  have hρ : ∀ i k, 2 * ab (1073741824 * tkR W e j i k - stU W e j i * rowF 48 W j k) ≤ 1073741824 := fun i k => rsh_two _
  have core := el_core (a := rowF 48 W i) (b := rowF 48 W l) (v := rowF 48 W j) (e := e) (r := tkR W e j i) (s := tkR W e j l) (ρ := fun k => 1073741824 * tkR W e j i k - stU W e j i * rowF 48 W j k) (σ := fun k => 1073741824 * tkR W e j l k - stU W e j l * rowF 48 W j k)
    (O := 1073741824) (u := stU W e j i) (t := stU W e j l) (d := stD W e j) (εa := 1073741824 * stD W e j * stU W e j i - gr (rowF 48 W i) (rowF 48 W j) e) (εb := 1073741824 * stD W e j * stU W e j l - gr (rowF 48 W l) (rowF 48 W j) e) (εv := 1073741824 * 1073741824 * stD W e j - gr (rowF 48 W j) (rowF 48 W j) e)
    (fun k _ => by omega) (fun k _ => by omega) (by omega) (by omega) (by omega)
  have z1 := rnd_row (b := fun k => rowF 48 W l k - tkR W e j l k) he fun k _ => hρ i k
  have z2 := rnd_row (b := fun k => rowF 48 W i k - tkR W e j i k) he fun k _ => hρ l k
  have z3 := rnd_rnd he (fun k _ => hρ i k) fun k _ => hρ l k
  have x1 := ab_mul2 hu.2.1 (show 2 * ab (1073741824 * stD W e j * stU W e j l - gr (rowF 48 W l) (rowF 48 W j) e) ≤ 122782681640000000000000 by omega)
  have x2 := ab_mul2 ht.2.1 (show 2 * ab (1073741824 * stD W e j * stU W e j i - gr (rowF 48 W i) (rowF 48 W j) e) ≤ 122782681640000000000000 by omega)
  have ut : ab (stU W e j i * stU W e j l) ≤ 3238556506440633155584 := by
    rw [ab_mul]
    exact Int.le_trans (Int.mul_le_mul hu.2.1 ht.2.1 (ab_bd _).1 (by decide)) (by decide)
  have x3 := ab_mul2 ut (show 2 * ab (1073741824 * 1073741824 * stD W e j - gr (rowF 48 W j) (rowF 48 W j) e) ≤ 75559016647418930266112 by rw [show (1073741824 : Int) * 1073741824 = 1152921504606846976 from rfl]; exact hv)
  refine ⟨_, _, _, _, _, _, ?_, x1, x2, x3, Int.le_trans z1 ?_, Int.le_trans z2 ?_, Int.le_trans z3 ?_⟩
  · unfold lfR
    rw [Int.mul_add, Int.mul_sub, core]
    omega
  · unfold lfR; omega
  · unfold lfR; omega
  · omega
include he hW hd in
/-- The squares' sum of what is left of a row is no greater, but for roundings. -/
theorem pair_own {i : Nat} (hi : i < j) : gr (lfR W e j i) (lfR W e j i) e ≤ gr (rowF 48 W i) (rowF 48 W i) e + 116056878683004400771792896 := by
  obtain ⟨Z1, Z2, Z3, X1, X2, X3, h, x1, x2, x3, z1, z2, z3⟩ := pair_raw he hW hd hi hi
  have d0 := (st_d he hW hd).2.1
  have hg := (hW i (Nat.le_of_lt hi)).2
  have g0 := gr_nonneg he (rowF 48 W i)
  have g1 := gr_nonneg he (lfR W e j i)
  have q := Int.mul_nonneg (sq_nn (stU W e j i)) (show 0 ≤ stD W e j by omega)
  generalize stU W e j i * stU W e j i * stD W e j = y at *
  generalize gr (lfR W e j i) (lfR W e j i) e = G' at *
  generalize gr (rowF 48 W i) (rowF 48 W i) e = G at *
  have a1 := ab_bd X1
  have a2 := ab_bd X2
  have a3 := ab_bd X3
  have b1 := ab_bd Z1
  have b2 := ab_bd Z2
  have b3 := ab_bd Z3
  omega
include he hW hd in
theorem pair_two {i l : Nat} (hi : i < j) (hl : l < j) : ab (gr (lfR W e j i) (lfR W e j l) e - gr (rowF 48 W i) (rowF 48 W l) e + stU W e j i * stU W e j l * stD W e j) ≤ 116056878683004400771792896 := by
  obtain ⟨Z1, Z2, Z3, X1, X2, X3, h, x1, x2, x3, z1, z2, z3⟩ := pair_raw he hW hd hi hl
  have o1 := pair_own he hW hd hi
  have o2 := pair_own he hW hd hl
  have hg := (hW i (Nat.le_of_lt hi)).2
  have hg2 := (hW l (Nat.le_of_lt hl)).2
  generalize gr (lfR W e j i) (lfR W e j l) e - gr (rowF 48 W i) (rowF 48 W l) e + stU W e j i * stU W e j l * stD W e j = y at *
  generalize gr (lfR W e j i) (lfR W e j i) e = G' at *
  generalize gr (rowF 48 W i) (rowF 48 W i) e = G at *
  generalize gr (lfR W e j l) (lfR W e j l) e = F' at *
  generalize gr (rowF 48 W l) (rowF 48 W l) e = F at *
  have a1 := ab_bd X1
  have a2 := ab_bd X2
  have a3 := ab_bd X3
  have b1 := ab_bd Z1
  have b2 := ab_bd Z2
  have b3 := ab_bd Z3
  exact le_ab (by omega)
end
end Go.Proofs.Ytanmddenleffaaa
namespace Go.Proofs.Ytanmddenleffaaa
/-- Row j has One where the weight is great. -/
def Nrm (W e : Nat → Int) (j : Nat) : Prop := ∃ k, k < 48 ∧ W (j * 48 + k) = 1073741824 ∧ 17179869184 ≤ e k
/-- Row j is One alone, where no other row ahead has a number. -/
def Pln (W e : Nat → Int) (j : Nat) : Prop := ∃ k0, k0 < 48 ∧ W (j * 48 + k0) = 1073741824 ∧ 1 ≤ e k0 ∧ (∀ k, k < 48 → k ≠ k0 → W (j * 48 + k) = 0) ∧ ∀ i, i < j → W (i * 48 + k0) = 0
theorem cl_orB {p : Nat → Bool} : ∀ {n : Nat}, (∀ i, i < n → p i = false) → orB p n = false
  | 0, _ => rfl
  | n + 1, h => by unfold orB; rw [cl_orB (n := n) fun i hi => h i (by omega), h n (by omega)]; rfl
theorem sg_zero {f : Nat → Int} {n : Nat} (h : ∀ k, k < n → f k = 0) : sg f n = 0 := by
  rw [sg_congr h, sg_const]; simp
theorem sg_only {f : Nat → Int} {a : Nat} : ∀ {n : Nat}, a < n → (∀ k, k < n → k ≠ a → f k = 0) → sg f n = f a
  | 0, h, _ => absurd h (Nat.not_lt_zero _)
  | n + 1, h, h0 => by
    unfold sg
    by_cases e : a = n
    · subst e; rw [sg_zero fun k hk => h0 k (by omega) (by omega)]; omega
    · rw [sg_only (n := n) (by omega) fun k hk => h0 k (by omega), h0 n (by omega) (by omega)]; omega
theorem row_lt {W e : Nat → Int} {j i k : Nat} (hi : i < j) (hk : k < 48) : elW W e j j 0 (i * 48 + k) = elV W (stU W e j i) j i k := by
  have e1 : (i * 48 + k) / 48 = i := by omega
  have e2 : (i * 48 + k) % 48 = k := by omega
  unfold elW; rw [e1, e2, if_pos (.inl hi)]
theorem row_ge {W e : Nat → Int} {j i k : Nat} (hi : j ≤ i) (hk : k < 48) : elW W e j j 0 (i * 48 + k) = W (i * 48 + k) := by
  have e1 : (i * 48 + k) / 48 = i := by omega
  unfold elW; rw [e1, if_neg (by omega)]
/-- What a stage does. -/
structure StO (W e : Nat → Int) (j : Nat) : Prop where
  flag : stageH W e j = false
  u : ∀ i, i < j → ab (stU W e j i) ≤ 56908316672
  w : ∀ i, i < j → ∀ k, k < 48 → elW W e j j 0 (i * 48 + k) = W (i * 48 + k) - rsh (stU W e j i * W (j * 48 + k)) 30
  own : ∀ i, i < j → gr (lfR W e j i) (lfR W e j i) e ≤ gr (rowF 48 W i) (rowF 48 W i) e + 116056878683004400771792896
  two : ∀ i l, i < j → l < j → ab (gr (lfR W e j i) (lfR W e j l) e - gr (rowF 48 W i) (rowF 48 W l) e + stU W e j i * stU W e j l * stD W e j) ≤ 116056878683004400771792896
section
variable {W e : Nat → Int} {j : Nat} (he : WtB e) (hW : RwB W e j)
include he hW in
theorem stage_flag (hd : dB W e j = false) (hu : ∀ i, i < j → uB W e j i = false ∧ ab (stU W e j i) ≤ 56908316672) : stageH W e j = false := by
  unfold stageH
  rw [hd, cl_orB fun k hk => (st_y he hW hk).2.1, cl_orB]; rfl
  intro i hi
  unfold rowB
  rw [(hu i hi).1, cl_orB fun k hk => (st_w hW hi hk (hu i hi).2).2]; rfl
include he hW in
theorem nrm_out (hd : Nrm W e j) : StO W e j := by
  have d := st_d he hW hd
  refine ⟨stage_flag he hW d.2.2.2 fun i hi => ⟨(st_u he hW hd hi).2.2, (st_u he hW hd hi).2.1⟩, fun i hi => (st_u he hW hd hi).2.1, fun i hi k hk => ?_, fun i hi => pair_own he hW hd hi, fun i l hi hl => pair_two he hW hd hi hl⟩
  rw [row_lt hi hk, (st_w hW hi hk (st_u he hW hd hi).2.1).1]
include he hW in
theorem pln_y {k0 : Nat} (h1 : W (j * 48 + k0) = 1073741824) (h3 : ∀ k, k < 48 → k ≠ k0 → W (j * 48 + k) = 0) {k : Nat} (hk : k < 48) : stY W e j k = if k = k0 then e k0 else 0 := by
  rw [(st_y he hW hk).1]
  by_cases h : k = k0
  · rw [if_pos h, h, h1, cl_rshmul]
  · rw [if_neg h, h3 k hk h, Int.zero_mul]; rfl
include he hW in
theorem pln_d (hd : Pln W e j) : ∃ k0, k0 < 48 ∧ stD W e j = e k0 ∧ dB W e j = false ∧ (∀ i, i < j → stU W e j i = 0 ∧ uB W e j i = false) ∧ W (j * 48 + k0) = 1073741824 := by
  obtain ⟨k0, hk0, h1, h2, h3, h4⟩ := hd
  have hy := fun {k} (hk : k < 48) => pln_y he hW h1 h3 hk
  have e0 := he k0 hk0
  have hs : sg (fun k => W (j * 48 + k) * stY W e j k) 48 = 1073741824 * e k0 := by
    rw [sg_only hk0 fun k hk hne => by rw [h3 k hk hne, Int.zero_mul], h1, hy hk0, if_pos rfl]
  have dv := dotV_sg (A := rowF 48 W j) (B := stY W e j) (n := 48) (fun k hk => ⟨sb_ab (rw_ent hW (Nat.le_refl j) hk) (by decide), (st_y he hW hk).2.2⟩) (by unfold rowF; rw [hs, cl_rshmul]; unfold SB; omega)
  have dv1 : dotV 30 (rowF 48 W j) (stY W e j) 48 = e k0 := by rw [dv.1]; unfold rowF; rw [hs, cl_rshmul]
  have vv := cl_varV (a := e k0) (by omega) (by omega)
  have hD : stD W e j = e k0 := by unfold stD; rw [dv1, vv.1]
  refine ⟨k0, hk0, hD, by unfold dB; rw [dv.2, dv1, vv.2]; rfl, fun i hi => ?_, h1⟩
  have hz : sg (fun k => W (i * 48 + k) * stY W e j k) 48 = 0 := sg_zero fun k hk => by
    rw [hy hk]
    split
    · next h => rw [h, h4 i hi, Int.zero_mul]
    · exact Int.mul_zero _
  have du := dotV_sg (A := rowF 48 W i) (B := stY W e j) (n := 48) (fun k hk => ⟨sb_ab (rw_ent hW (Nat.le_of_lt hi) hk) (by decide), (st_y he hW hk).2.2⟩) (by unfold rowF; rw [hz]; unfold SB; decide)
  have du1 : dotV 30 (rowF 48 W i) (stY W e j) 48 = 0 := by rw [du.1]; unfold rowF; rw [hz]; rfl
  have r0 : rdiv (0 * 1073741824) (e k0) = 0 := by rw [Int.zero_mul]; exact cl_rdiv0 (by omega)
  have q := cl_divV (a := 0) (b := e k0) (by unfold SB; decide) (by unfold SB; omega) (by omega) (by rw [r0]; unfold SB; decide)
  exact ⟨by unfold stU; rw [du1, hD, q.1, r0], by unfold uB; rw [du.2, du1, hD, q.2]; rfl⟩
include he hW in
theorem pln_out (hd : Pln W e j) : StO W e j := by
  obtain ⟨k0, hk0, hD, hB, hu, h1⟩ := pln_d he hW hd
  have hl : ∀ i, i < j → lfR W e j i = rowF 48 W i := fun i hi => by
    funext k
    unfold lfR tkR
    rw [(hu i hi).1, Int.zero_mul, show rsh 0 30 = 0 by decide, Int.sub_zero]
  refine ⟨stage_flag he hW hB fun i hi => ⟨(hu i hi).2, by rw [(hu i hi).1]; decide⟩, fun i hi => by rw [(hu i hi).1]; decide, fun i hi k hk => ?_, fun i hi => ?_, fun i l hi hl2 => ?_⟩
  · rw [row_lt hi hk, (st_w hW hi hk (by rw [(hu i hi).1]; decide)).1]
  · rw [hl i hi]; omega
  · rw [hl i hi, hl l hl2, (hu i hi).1]
    simp [ab]
end
/-- The multiple of the row of stage m in row i, and that row's variance. -/
def UU (W e : Nat → Int) (i m : Nat) : Int := stU (WN W e m) e (23 - m) i
def DD (W e : Nat → Int) (m : Nat) : Int := stD (WN W e m) e (23 - m)
/-- What all stages ahead took of the product of rows i and l. -/
def SS (W e : Nat → Int) (i l n : Nat) : Int := sg (fun m => UU W e i m * UU W e l m * DD W e m) n
structure RnI (W e : Nat → Int) (n : Nat) : Prop where
  flag : HN W e n = false
  own : ∀ i, i < 24 - n → gr (rowF 48 (WN W e n) i) (rowF 48 (WN W e n) i) e ≤ gr (rowF 48 W i) (rowF 48 W i) e + n * 116056878683004400771792896
  two : ∀ i l, i < 24 - n → l < 24 - n → ab (gr (rowF 48 (WN W e n) i) (rowF 48 (WN W e n) l) e - gr (rowF 48 W i) (rowF 48 W l) e + SS W e i l n) ≤ n * 116056878683004400771792896
theorem run_step {W e : Nat → Int} {n : Nat} (hn : n < 24) (I : RnI W e n) (S : StO (WN W e n) e (23 - n)) : RnI W e (n + 1) := by
  have hrow : ∀ i, i < 24 - (n + 1) → gr (rowF 48 (WN W e (n + 1)) i) = gr (lfR (WN W e n) e (23 - n) i) → True := fun _ _ _ => trivial
  clear hrow
  have hr : ∀ i, i < 23 - n → ∀ k, k < 48 → rowF 48 (WN W e (n + 1)) i k = lfR (WN W e n) e (23 - n) i k := fun i hi k hk => S.w i hi k hk
  have hg : ∀ i l, i < 23 - n → l < 23 - n → gr (rowF 48 (WN W e (n + 1)) i) (rowF 48 (WN W e (n + 1)) l) e = gr (lfR (WN W e n) e (23 - n) i) (lfR (WN W e n) e (23 - n) l) e := fun i l hi hl => sg_congr fun k hk => by rw [hr i hi k hk, hr l hl k hk]
  refine ⟨?_, fun i hi => ?_, fun i l hi hl => ?_⟩
  · show (HN W e n || stageH (WN W e n) e (23 - n)) = false
    rw [I.flag, S.flag]; rfl
  · rw [hg i i (by omega) (by omega)]
    have a := S.own i (by omega)
    have b := I.own i (by omega)
    rw [Int.natCast_add, Int.add_mul]
    omega
  · rw [hg i l (by omega) (by omega)]
    have a := S.two i l (by omega) (by omega)
    have b := I.two i l (by omega) (by omega)
    have e1 : SS W e i l (n + 1) = SS W e i l n + stU (WN W e n) e (23 - n) i * stU (WN W e n) e (23 - n) l * stD (WN W e n) e (23 - n) := rfl
    have c := ab_add (gr (lfR (WN W e n) e (23 - n) i) (lfR (WN W e n) e (23 - n) l) e - gr (rowF 48 (WN W e n) i) (rowF 48 (WN W e n) l) e + stU (WN W e n) e (23 - n) i * stU (WN W e n) e (23 - n) l * stD (WN W e n) e (23 - n)) (gr (rowF 48 (WN W e n) i) (rowF 48 (WN W e n) l) e - gr (rowF 48 W i) (rowF 48 W l) e + SS W e i l n)
    rw [e1, Int.natCast_add, Int.add_mul]
    refine Int.le_trans (Int.le_of_eq ?_) (Int.le_trans c (Int.le_trans (Int.add_le_add a b) (Int.le_of_eq ?_)))
    · congr 1; omega
    · omega
/-- What a run needs: P tells more of the rows, from which their sizes come. -/
structure RunH (W e : Nat → Int) (P : Nat → Prop) : Prop where
  he : WtB e
  p0 : P 0
  g : ∀ i, i < 24 → gr (rowF 48 W i) (rowF 48 W i) e ≤ 50700000000000000000000000000000
  hN : ∀ n, n < 24 → P n → (∀ i, i ≤ 23 - n → gr (rowF 48 (WN W e n) i) (rowF 48 (WN W e n) i) e ≤ 50706024009129176059868128215040) → ∀ i, i ≤ 23 - n → sg (fun k => ab (WN W e n (i * 48 + k))) 48 ≤ 50000000000000
  hS : ∀ n, n < 24 → P n → Nrm (WN W e n) e (23 - n) ∨ Pln (WN W e n) e (23 - n)
  hP : ∀ n, n < 24 → P n → RwB (WN W e n) e (23 - n) → StO (WN W e n) e (23 - n) → P (n + 1)
theorem RunH.rw {W e : Nat → Int} {P : Nat → Prop} (H : RunH W e P) {n : Nat} (hn : n < 24) (p : P n) (I : RnI W e n) : RwB (WN W e n) e (23 - n) := by
  have g : ∀ i, i ≤ 23 - n → gr (rowF 48 (WN W e n) i) (rowF 48 (WN W e n) i) e ≤ 50706024009129176059868128215040 := fun i hi => by
    have a := I.own i (by omega)
    have b := H.g i (by omega)
    omega
  exact fun i hi => ⟨H.hN n hn p g i hi, g i hi⟩
theorem RunH.all {W e : Nat → Int} {P : Nat → Prop} (H : RunH W e P) : ∀ n, n ≤ 24 → P n ∧ RnI W e n
  | 0, _ => ⟨H.p0, rfl, fun i hi => by show gr (rowF 48 W i) (rowF 48 W i) e ≤ _; omega, fun i l _ _ => by
      show ab (gr (rowF 48 W i) (rowF 48 W l) e - gr (rowF 48 W i) (rowF 48 W l) e + 0) ≤ _
      simp [ab]⟩
  | n + 1, hn => by
    obtain ⟨p, I⟩ := H.all n (by omega)
    have hW := H.rw (by omega) p I
    have S : StO (WN W e n) e (23 - n) := (H.hS n (by omega) p).elim (nrm_out H.he hW) (pln_out H.he hW)
    exact ⟨H.hP n (by omega) p hW S, run_step (by omega) I S⟩
theorem RunH.st {W e : Nat → Int} {P : Nat → Prop} (H : RunH W e P) {n : Nat} (hn : n < 24) : P n ∧ RnI W e n ∧ RwB (WN W e n) e (23 - n) ∧ StO (WN W e n) e (23 - n) := by
  obtain ⟨p, I⟩ := H.all n (by omega)
  have hW := H.rw (by omega) p I
  exact ⟨p, I, hW, (H.hS n (by omega) p).elim (nrm_out H.he hW) (pln_out H.he hW)⟩
/-- The variances and multiples of a run are small. -/
theorem RunH.dd {W e : Nat → Int} {P : Nat → Prop} (H : RunH W e P) {n : Nat} (hn : n < 24) : 1 ≤ DD W e n ∧ DD W e n ≤ 43980465190000 := by
  obtain ⟨p, I, hW, S⟩ := H.st hn
  rcases H.hS n hn p with h | h
  · have := st_d H.he hW h
    unfold DD; omega
  · obtain ⟨k0, hk0, h1, _, _, _⟩ := pln_d H.he hW h
    obtain ⟨k1, hk1, h2, h3, h4, _⟩ := h
    unfold DD
    have := H.he k0 hk0
    rw [h1]
    have : 1 ≤ e k0 := by
      by_cases h5 : k0 = k1
      · rw [h5]; exact h3
      · obtain ⟨k2, hk2, h6, _, _, h7⟩ := pln_d H.he hW ⟨k1, hk1, h2, h3, h4, by assumption⟩
        have d : 1 ≤ stD (WN W e n) e (23 - n) := by unfold stD varV clampV; split; omega; split; omega; split; omega; omega
        omega
    omega
end Go.Proofs.Ytanmddenleffaaa
