/- Contracts of the program's functions and plain laws, part 3: they hold for all arguments. -/
import Derived.Test.YtokcdlcmamdloaaQ02
import Derived.OrdersHeld
import Derived.StillTail
import Derived.Deep.RegionHeld3
/- Contracts of the reference's scalars (7): Clamp, Sat, Add, Sub, Neg. -/
namespace Go.Proofs.Ytokcdlcmamdloaa
open Go.RowKit
set_option maxRecDepth 100000
theorem clamp1 {a lo hi : Int} (h : hi < lo ∨ a < lo) : clampV a lo hi = lo ∧ clampH a lo hi = true := by
  unfold clampV clampH
  rcases h with h | h <;> simp [h]
theorem clamp2 {a lo hi : Int} (h0 : ¬ hi < lo) (h1 : ¬ a < lo) (h : hi < a) : clampV a lo hi = hi ∧ clampH a lo hi = true := by
  simp [clampV, clampH, h0, h1, h]
theorem clamp3 {a lo hi : Int} (h0 : ¬ hi < lo) (h1 : ¬ a < lo) (h2 : ¬ hi < a) : clampV a lo hi = a ∧ clampH a lo hi = false := by
  simp [clampV, clampH, h0, h1, h2]
theorem rclamp_any (c : Addr) (h : Bool) (a lo hi : Int) (w : World) (hc : w.cell? c = some (.bool h)) (hf : w.frozen? c = false) :
    Calls Try.prog 37 #[.pointer (some c), .int .i64 a, .int .i64 lo, .int .i64 hi] w fun e w' =>
      e = .returned (.int .i64 (clampV a lo hi)) ∧ w.setCell c (.bool (h || clampH a lo hi)) = w' := by
  by_cases h1 : a < lo
  · obtain ⟨e1, e2⟩ := clamp1 (hi := hi) (.inr h1)
    rw [e1, e2, Bool.or_true]
    have d1 : decide (a < lo) = true := by simpa using h1
    have d2 : (lo != a) = true := by simp; omega
    clear e1 e2 h1
    go_enter Try.func37, Try.ntmps37
    go_wp2_with fail
    go_ret
    exact ⟨rfl, rfl⟩
  have d1 : decide (a < lo) = false := by simpa using h1
  by_cases h0 : hi < lo
  · obtain ⟨e1, e2⟩ := clamp1 (a := a) (.inl h0)
    rw [e1, e2, Bool.or_true]
    have d0 : decide (hi < lo) = true := by simpa using h0
    clear e1 e2 h0 h1
    by_cases h2 : lo = a
    · subst h2
      have d2 : (lo != lo) = false := by simp
      go_enter Try.func37, Try.ntmps37
      go_wp2_with fail
      go_ret
      exact ⟨rfl, rfl⟩
    · have d2 : (lo != a) = true := by simpa using h2
      clear h2
      go_enter Try.func37, Try.ntmps37
      go_wp2_with fail
      go_ret
      exact ⟨rfl, rfl⟩
  have d0 : decide (hi < lo) = false := by simpa using h0
  by_cases h2 : hi < a
  · obtain ⟨e1, e2⟩ := clamp2 h0 h1 h2
    rw [e1, e2, Bool.or_true]
    have d2 : decide (hi < a) = true := by simpa using h2
    have d3 : (hi != a) = true := by simp; omega
    clear e1 e2 h0 h1 h2
    go_enter Try.func37, Try.ntmps37
    go_wp2_with fail
    go_ret
    exact ⟨rfl, rfl⟩
  · obtain ⟨e1, e2⟩ := clamp3 h0 h1 h2
    rw [e1, e2, Bool.or_false, setCell_self w c _ hc]
    have d2 : decide (hi < a) = false := by simpa using h2
    have d3 : (a != a) = false := by simp
    clear e1 e2 h0 h1 h2
    go_enter Try.func37, Try.ntmps37
    go_wp2_with fail
    go_ret
    exact ⟨rfl, rfl⟩
theorem rsat_any (c : Addr) (h : Bool) (a : Int) (w : World) (hc : w.cell? c = some (.bool h)) (hf : w.frozen? c = false) :
    Calls Try.prog 39 #[.pointer (some c), .int .i64 a] w fun e w' => e = .returned (.int .i64 (satV a)) ∧ w.setCell c (.bool (h || satH a)) = w' := by
  go_enter Try.func39, Try.ntmps39
  go_wp2_with (go_at_call 37; refine (rclamp_any c h a _ _ _ hc hf).mono ?_; rintro e w' ⟨rfl, rfl⟩)
  go_ret
  exact ⟨rfl, rfl⟩
theorem rsub_any (c : Addr) (h : Bool) (a b : Int) (w : World) (hc : w.cell? c = some (.bool h)) (hf : w.frozen? c = false) :
    Calls Try.prog 43 #[.pointer (some c), .int .i64 a, .int .i64 b] w fun e w' =>
      e = .returned (.int .i64 (satV (satV a - satV b))) ∧ w.setCell c (.bool (h || satH a || satH b || satH (satV a - satV b))) = w' := by
  have ba := satV_bd a
  have bb := satV_bd b
  obtain ⟨x, hx⟩ : ∃ x, satV a = x := ⟨_, rfl⟩
  obtain ⟨y, hy⟩ : ∃ y, satV b = y := ⟨_, rfl⟩
  have c1 : (w.setCell c (.bool (h || satH a))).cell? c = some (.bool (h || satH a)) := World.cell?_setCell_same _ _ _ hc
  have c2 : ((w.setCell c (.bool (h || satH a))).setCell c (.bool (h || satH a || satH b))).cell? c = some (.bool (h || satH a || satH b)) := World.cell?_setCell_same _ _ _ c1
  have f1 : ∀ v, (w.setCell c v).frozen? c = false := fun v => by simp [hf]
  go_enter Try.func43, Try.ntmps43
  go_wp2_with fail
  refine (rsat_any c h a _ hc hf).mono ?_; rintro e w' ⟨rfl, rfl⟩
  go_wp2_with fail
  refine (rsat_any c _ b _ c1 (f1 _)).mono ?_; rintro e w' ⟨rfl, rfl⟩
  go_wp2_with fail
  obtain ⟨z, hz⟩ : ∃ z, satV (x - y) = z := ⟨_, rfl⟩
  refine (rsat_any c _ (x - y) _ c2 (by simp [hf])).mono ?_; rintro e w' ⟨rfl, rfl⟩
  go_wp2_with fail
  go_ret
  rw [hx, hy, hz]
  exact ⟨rfl, by simp only [setCell_setCell]⟩
theorem rplus_any (c : Addr) (h : Bool) (a b : Int) (w : World) (hc : w.cell? c = some (.bool h)) (hf : w.frozen? c = false) :
    Calls Try.prog 51 #[.pointer (some c), .int .i64 a, .int .i64 b] w fun e w' =>
      e = .returned (.int .i64 (satV (satV a + satV b))) ∧ w.setCell c (.bool (h || satH a || satH b || satH (satV a + satV b))) = w' := by
  have ba := satV_bd a
  have bb := satV_bd b
  obtain ⟨x, hx⟩ : ∃ x, satV a = x := ⟨_, rfl⟩
  obtain ⟨y, hy⟩ : ∃ y, satV b = y := ⟨_, rfl⟩
  have c1 : (w.setCell c (.bool (h || satH a))).cell? c = some (.bool (h || satH a)) := World.cell?_setCell_same _ _ _ hc
  have c2 : ((w.setCell c (.bool (h || satH a))).setCell c (.bool (h || satH a || satH b))).cell? c = some (.bool (h || satH a || satH b)) := World.cell?_setCell_same _ _ _ c1
  have f1 : ∀ v, (w.setCell c v).frozen? c = false := fun v => by simp [hf]
  go_enter Try.func51, Try.ntmps51
  go_wp2_with fail
  refine (rsat_any c h a _ hc hf).mono ?_; rintro e w' ⟨rfl, rfl⟩
  go_wp2_with fail
  refine (rsat_any c _ b _ c1 (f1 _)).mono ?_; rintro e w' ⟨rfl, rfl⟩
  go_wp2_with fail
  obtain ⟨z, hz⟩ : ∃ z, satV (x + y) = z := ⟨_, rfl⟩
  refine (rsat_any c _ (x + y) _ c2 (by simp [hf])).mono ?_; rintro e w' ⟨rfl, rfl⟩
  go_wp2_with fail
  go_ret
  rw [hx, hy, hz]
  exact ⟨rfl, by simp only [setCell_setCell]⟩
end Go.Proofs.Ytokcdlcmamdloaa
/- Contracts of the reference's scalars (8): Mul by 2^30 and 2^44, M. -/
namespace Go.Proofs.Ytokcdlcmamdloaa
open Go.RowKit
set_option maxRecDepth 100000
theorem sg2_mul (x y : Int) (P : Nat) (hP : x.natAbs * y.natAbs = P) : sv (sg2 x y) P = x * y := by
  subst hP
  unfold sv sg2
  have hx := Int.natAbs_mul x y
  by_cases h1 : x < 0 <;> by_cases h2 : y < 0
  · simp only [if_pos h1, if_pos h2, Bool.false_eq_true, if_false]
    rw [← hx]; have := Int.mul_pos_of_neg_of_neg h1 h2; omega
  · simp only [if_pos h1, if_neg h2, if_true]
    rw [← hx]; have := Int.mul_nonpos_of_nonpos_of_nonneg (Int.le_of_lt h1) (Int.not_lt.mp h2); omega
  · simp only [if_neg h1, if_pos h2, if_true]
    rw [← hx]; have := Int.mul_nonpos_of_nonneg_of_nonpos (Int.not_lt.mp h1) (Int.le_of_lt h2); omega
  · simp only [if_neg h1, if_neg h2, Bool.false_eq_true, if_false]
    rw [← hx]; have := Int.mul_nonneg (Int.not_lt.mp h1) (Int.not_lt.mp h2); omega
theorem abs_prod_bd (a b : Int) : (satV a).natAbs * (satV b).natAbs ≤ 1329227995784915872903807060280344576 := by
  have ha := satV_bd a
  have hb := satV_bd b
  exact Nat.le_trans (Nat.mul_le_mul (show (satV a).natAbs ≤ 1152921504606846976 by omega) (show (satV b).natAbs ≤ 1152921504606846976 by omega)) (by decide)
set_option maxHeartbeats 1000000 in
theorem rmulS (c : Addr) (h : Bool) (a b s x y : Int) (P N : Nat) (m : Bool) (w : World) (hc : w.cell? c = some (.bool h)) (hf : w.frozen? c = false)
    (hx : satV a = x) (hy : satV b = y)
    (hm : ∀ w, Calls Try.prog 66 #[.int .i64 x, .int .i64 y] w fun e w' => e = .returned (.agg #[.int .u64 (hi64 (P : Int)), .int .u64 (lo64 (P : Int)), .bool m]) ∧ Below w.heap.size w w')
    (hs : ∀ w, Calls Try.prog 68 #[.agg #[.int .u64 (hi64 (P : Int)), .int .u64 (lo64 (P : Int)), .bool m], .int .i64 s] w fun e w' =>
      e = .returned (.agg #[.int .u64 (hi64 (N : Int)), .int .u64 (lo64 (N : Int)), .bool m]) ∧ Below w.heap.size w w') :
    Calls Try.prog 52 #[.pointer (some c), .int .i64 a, .int .i64 b, .int .i64 s] w fun e w' => e = .returned (.int .i64 (satV (sv m N))) ∧ Upd c (h || satH a || satH b || satH (sv m N)) w w' := by
  have hcb := World.block_lt_of_cell? w c hc
  have c1 : (w.setCell c (.bool (h || satH a))).cell? c = some (.bool (h || satH a)) := World.cell?_setCell_same _ _ _ hc
  have c2 : ((w.setCell c (.bool (h || satH a))).setCell c (.bool (h || satH a || satH b))).cell? c = some (.bool (h || satH a || satH b)) := World.cell?_setCell_same _ _ _ c1
  have HM := Lib.hid hm
  have HR := Lib.hid hs
  have C2 := Lib.hid c2
  clear hm hs c2
  go_enter Try.func52, Try.ntmps52
  go_wp2_with fail
  refine (rsat_any c h a _ hc hf).mono ?_; rintro e w' ⟨rfl, rfl⟩
  go_wp2_with fail
  refine (rsat_any c _ b _ c1 (by simp [hf])).mono ?_; rintro e w' ⟨rfl, rfl⟩
  have HW := Lib.hid (Upd.trans (Upd.set c (h || satH a) w) (Upd.set c (h || satH a || satH b) _))
  have F2 : ((w.setCell c (.bool (h || satH a))).setCell c (.bool (h || satH a || satH b))).frozen? c = false := by simp [hf]
  have Z2 := Upd.size HW.out
  obtain ⟨w2, hw2⟩ : ∃ w2, (w.setCell c (.bool (h || satH a))).setCell c (.bool (h || satH a || satH b)) = w2 := ⟨_, rfl⟩
  rw [hw2] at HW C2 F2 Z2 ⊢
  clear hw2 c1 hc hf
  go_wp2_with fail
  refine (HM.out _).mono ?_; rintro e w3 ⟨rfl, hb3⟩
  have k1 : w3.cell? c = some (.bool (h || satH a || satH b)) := (hb3.cell (by omega)).trans C2.out
  have k2 : w3.frozen? c = false := (hb3.frozen (by omega)).trans F2
  have hz := hb3.size
  have HB3 := Lib.hid hb3
  clear hb3 C2 F2
  go_wp2_with fail
  refine (HR.out _).mono ?_; rintro e w4 ⟨rfl, hb4⟩
  have k3 : w4.cell? c = some (.bool (h || satH a || satH b)) := (hb4.cell (by omega)).trans k1
  have k4 : w4.frozen? c = false := (hb4.frozen (by omega)).trans k2
  have HB4 := Lib.hid hb4
  clear hb4 k1 k2
  go_wp2_with fail
  refine (rend2_any c _ N m _ k3 k4).mono ?_; rintro e w5 ⟨rfl, hu5⟩
  go_wp2_with fail
  go_ret
  exact ⟨rfl, HW.out.trans (Upd.after HB3.out (Upd.after HB4.out hu5))⟩
theorem rmul30_any (c : Addr) (h : Bool) (a b : Int) (w : World) (hc : w.cell? c = some (.bool h)) (hf : w.frozen? c = false) :
    Calls Try.prog 52 #[.pointer (some c), .int .i64 a, .int .i64 b, .int .i64 30] w fun e w' => e = .returned (.int .i64 (mulV a b 30)) ∧ Upd c (h || mulH a b 30) w w' := by
  have hp := abs_prod_bd a b
  have ba := satV_bd a
  have bb := satV_bd b
  obtain ⟨P, hP⟩ : ∃ P, (satV a).natAbs * (satV b).natAbs = P := ⟨_, rfl⟩
  have e1 : mulV a b 30 = satV (sv (sg2 (satV a) (satV b)) (shM P 30)) := by rw [← rsh_sv, sg2_mul _ _ P hP]; simp [mulV]
  have e2 : (h || mulH a b 30) = (h || satH a || satH b || satH (sv (sg2 (satV a) (satV b)) (shM P 30))) := by rw [← rsh_sv, sg2_mul _ _ P hP]; simp [mulH, Bool.or_assoc]
  rw [e1, e2]
  rw [hP] at hp
  exact rmulS c h a b 30 _ _ P _ _ w hc hf rfl rfl (fun w => rmul_any _ _ _ w ba.1 ba.2 bb.1 bb.2 (by rw [← hP]; simp)) (fun w => rshift30_any P _ w (by omega))
theorem rmul44_any (c : Addr) (h : Bool) (a b : Int) (w : World) (hc : w.cell? c = some (.bool h)) (hf : w.frozen? c = false) :
    Calls Try.prog 52 #[.pointer (some c), .int .i64 a, .int .i64 b, .int .i64 44] w fun e w' => e = .returned (.int .i64 (mulV a b 44)) ∧ Upd c (h || mulH a b 44) w w' := by
  have hp := abs_prod_bd a b
  have ba := satV_bd a
  have bb := satV_bd b
  obtain ⟨P, hP⟩ : ∃ P, (satV a).natAbs * (satV b).natAbs = P := ⟨_, rfl⟩
  have e1 : mulV a b 44 = satV (sv (sg2 (satV a) (satV b)) (shM P 44)) := by rw [← rsh_sv, sg2_mul _ _ P hP]; simp [mulV]
  have e2 : (h || mulH a b 44) = (h || satH a || satH b || satH (sv (sg2 (satV a) (satV b)) (shM P 44))) := by rw [← rsh_sv, sg2_mul _ _ P hP]; simp [mulH, Bool.or_assoc]
  rw [e1, e2]
  rw [hP] at hp
  exact rmulS c h a b 44 _ _ P _ _ w hc hf rfl rfl (fun w => rmul_any _ _ _ w ba.1 ba.2 bb.1 bb.2 (by rw [← hP]; simp)) (fun w => rshift44_any P _ w (by omega))
theorem rm_any (c : Addr) (h : Bool) (a b : Int) (w : World) (hc : w.cell? c = some (.bool h)) (hf : w.frozen? c = false) :
    Calls Try.prog 15 #[.pointer (some c), .int .i64 a, .int .i64 b] w fun e w' => e = .returned (.int .i64 (mulV a b 30)) ∧ Upd c (h || mulH a b 30) w w' := by
  go_enter Try.func15, Try.ntmps15
  go_wp2_with fail
  refine (rmul30_any c h a b _ hc hf).mono ?_; rintro e w1 ⟨rfl, hu⟩
  go_wp2_with fail
  go_ret
  exact ⟨rfl, hu⟩
end Go.Proofs.Ytokcdlcmamdloaa
/- A region that draws its order, whose last operation (number L, a store that waits for all others) may spoil what the loads read: the condition S is asked behind every operation but that one. -/
namespace Go.Proofs.Ytokcdlcmamdloaa
open Go
section
variable {P : Program} {ops : Array Oper} {Q : Exit → Act → World → Prop} {md : Region.Mode} {S : World → Prop} {L : Nat}

/-- Whatever order is picked; S holds behind every operation that is carried out, till number L has come up. -/
def wpAnyM (P : Program) (md : Region.Mode) (ops : Array Oper) (Q : Exit → Act → World → Prop) (S : World → Prop) (L : Nat) : Nat → Array Bool → Act → World → Prop
  | 0, listed, a, w => Region.ready md ops listed = [] ∧ Q .normal a w
  | fuel + 1, listed, a, w =>
    (Region.ready md ops listed = [] → Q .normal a w) ∧
    ∀ i ∈ Region.ready md ops listed, wpOp P ops Q i (fun a' w' => ((listed.setIfInBounds i true).getD L false = true ∨ S w') ∧ wpAnyM P md ops Q S L fuel (listed.setIfInBounds i true) a' w') a w

theorem wpAny_of_M : ∀ (fuel : Nat) (listed : Array Bool) (a : Act) (w : World), wpAnyM P md ops Q S L fuel listed a w → wpAny P md ops Q fuel listed a w
  | 0, _, _, _, h => h
  | fuel + 1, _, _, _, h => ⟨h.1, fun i hi => wpOp_mono (fun a' w' h' => wpAny_of_M fuel _ a' w' h'.2) (h.2 i hi)⟩

theorem getD_of_ready {i : Nat} {listed : Array Bool} (h0 : listed.getD i true = false) (h1 : listed.getD i false = true) : False := by
  rcases Nat.lt_or_ge i listed.size with h' | h'
  · simp [h'] at h0 h1; rw [h0] at h1; cases h1
  · simp [Array.getElem?_eq_none h'] at h1

theorem getD_set_ne' {listed : Array Bool} {i L : Nat} (b : Bool) (h : i ≠ L) : (listed.setIfInBounds i true).getD L b = listed.getD L b := getD_set_ne b h

/-- G: in the worlds in which number i is known to yield. -/
theorem wpAnyM_first {G : World → Prop} {i : Nat} {oi : Oper} {v : Value} (hi : ops[i]? = some oi) (hsel : ∀ (j : Nat) (o : Oper) cs b, ops[j]? = some o → o.op ≠ .select cs b)
    (hQ : ∀ c a w, Q (.panic c) (a.put oi.dst v) w → Q (.panic c) a w) (hiL : i ≠ L)
    (hG : (Region.waitsFor md ops L i = true ∧ ∀ w, S w → G w) ∨ ∀ w, G w) :
    ∀ (fuel : Nat) (listed : Array Bool) (a : Act) (w : World), (Region.waitsFor md ops L i = true → listed.getD L false = false) →
      (∀ j oj, ops[j]? = some oj → j ≠ i → listed.getD j true = false → (∀ e ∈ oj.after, Region.binds md e = true → e.on ≠ i) → oi.apart ops oj = true) →
      i ∈ Region.ready md ops listed → YieldsIf P ops G oi v a → G w → (listed.getD L false = true ∨ S w) →
      wpAnyM P md ops Q S L fuel (listed.setIfInBounds i true) (a.put oi.dst v) w → wpAnyM P md ops Q S L (fuel + 1) listed a w := by
  intro fuel
  induction fuel with
  | zero =>
    intro listed a w _ _ hr hy hGw hS H
    refine ⟨fun h => (by rw [h] at hr; cases hr), fun j hj => ?_⟩
    by_cases hji : j = i
    · subst hji; exact hy.wpOp hi hGw ⟨hS.imp (fun h => by rw [getD_set_ne' _ hiL]; exact h) id, H⟩
    · have := ready_mono hj hji
      rw [H.1] at this
      cases this
  | succ fuel ih =>
    intro listed a w hLw hfree hr hy hGw hS H
    refine ⟨fun h => (by rw [h] at hr; cases hr), fun j hj => ?_⟩
    by_cases hji : j = i
    · subst hji; exact hy.wpOp hi hGw ⟨hS.imp (fun h => by rw [getD_set_ne' _ hiL]; exact h) id, H⟩
    · have h1 := H.2 j (ready_mono hj hji)
      obtain ⟨hjun, oj, hoj, hall⟩ := mem_ready.1 hj
      have hiun := (mem_ready.1 hr).1
      have hnot : ∀ e ∈ oj.after, Region.binds md e = true → e.on ≠ i := fun e he hb heq => by
        have h2 := hall e he hb
        rw [heq] at h2
        exact getD_of_ready hiun h2
      have hjL : Region.waitsFor md ops L i = true → j ≠ L := fun hL e => by
        subst e
        obtain ⟨oL, hoL, e, he, hb, hon⟩ := Region.waitsFor_spec hL
        have : oL = oj := Option.some.inj (hoL.symm.trans hoj)
        subst this
        exact hnot e he hb hon
      have h2 := wpOp_putIf hoj (hfree j oj hoj hji hjun hnot) (fun cs b => hsel i oi cs b hi) (fun cs b => hsel j oj cs b hoj) hQ hy h1
      have hfree' : ∀ k ok, ops[k]? = some ok → k ≠ i → (listed.setIfInBounds j true).getD k true = false →
          (∀ e ∈ ok.after, Region.binds md e = true → e.on ≠ i) → oi.apart ops ok = true := fun k ok hk hki hun hno => by
        refine hfree k ok hk hki ?_ hno
        by_cases hjk : j = k
        · subst hjk; exact hjun
        · rw [getD_set_ne true hjk] at hun; exact hun
      refine wpOp_mono (fun a' w' h3 => ?_) h2
      have hS' : (listed.setIfInBounds j true).getD L false = true ∨ S w' := by
        refine h3.2.1.imp (fun h => ?_) id
        rw [Array.setIfInBounds_comm _ _ (Ne.symm hji), getD_set_ne' _ hiL] at h
        exact h
      have hL' : Region.waitsFor md ops L i = true → (listed.setIfInBounds j true).getD L false = false := fun hL => by
        rw [getD_set_ne' _ (hjL hL)]; exact hLw hL
      have hG' : G w' := by
        rcases hG with ⟨hL, hSG⟩ | hG
        · refine hSG w' (hS'.resolve_left fun h => ?_)
          rw [hL' hL] at h; cases h
        · exact hG w'
      refine ⟨hS', ih (listed.setIfInBounds j true) a' w' hL' hfree' (ready_mono hr (Ne.symm hji)) h3.1 hG' hS' ?_⟩
      rw [Array.setIfInBounds_comm _ _ hji]
      exact h3.2.2

/-- Take number i first, number L waiting for it. -/
theorem wpAnyM_take (i : Nat) {oi : Oper} {v : Value} {fuel : Nat} {listed : Array Bool} {a : Act} {w : World} (hi' : ops.toList[i]? = some oi)
    (hk : (Region.noSelect ops && (Region.free md ops listed i && ((Region.ready md ops listed).contains i && (Region.waitsFor md ops L i && (!listed.getD L false && !(i == L)))))) = true)
    (hQ : ∀ c a w, Q (.panic c) (a.put oi.dst v) w → Q (.panic c) a w) (hy : YieldsIf P ops S oi v a) (hS : S w)
    (h : wpAnyM P md ops Q S L fuel (listed.setIfInBounds i true) (a.put oi.dst v) w) : wpAnyM P md ops Q S L (fuel + 1) listed a w := by
  have hi : ops[i]? = some oi := by rwa [Array.getElem?_toList] at hi'
  simp only [Bool.and_eq_true, Bool.not_eq_true'] at hk
  obtain ⟨k1, k2, k3, k4, k5, k6⟩ := hk
  exact wpAnyM_first hi (Region.noSelect_spec k1) hQ (by simpa using k6) (.inl ⟨k4, fun _ h => h⟩) fuel listed a w (fun _ => k5) (Region.free_spec hi k2) (by simpa using k3) hy hS (.inr hS) h

/-- Take number i first: it yields in whatever world. -/
theorem wpAnyM_takeW (i : Nat) {oi : Oper} {v : Value} {fuel : Nat} {listed : Array Bool} {a : Act} {w : World} (hi' : ops.toList[i]? = some oi)
    (hk : (Region.noSelect ops && (Region.free md ops listed i && ((Region.ready md ops listed).contains i && (!Region.waitsFor md ops L i && !(i == L))))) = true)
    (hQ : ∀ c a w, Q (.panic c) (a.put oi.dst v) w → Q (.panic c) a w) (hy : YieldsIf P ops (fun _ => True) oi v a) (hS : listed.getD L false = true ∨ S w)
    (h : wpAnyM P md ops Q S L fuel (listed.setIfInBounds i true) (a.put oi.dst v) w) : wpAnyM P md ops Q S L (fuel + 1) listed a w := by
  have hi : ops[i]? = some oi := by rwa [Array.getElem?_toList] at hi'
  simp only [Bool.and_eq_true, Bool.not_eq_true'] at hk
  obtain ⟨k1, k2, k3, k4, k6⟩ := hk
  exact wpAnyM_first hi (Region.noSelect_spec k1) hQ (by simpa using k6) (.inr fun _ => trivial) fuel listed a w (fun h => by rw [k4] at h; cases h) (Region.free_spec hi k2) (by simpa using k3) hy trivial hS h

/-- Number i alone may come up. -/
theorem wpAnyM_one (i : Nat) {o : Oper} {fuel : Nat} {listed : Array Bool} {a : Act} {w : World} (ho' : ops.toList[i]? = some o) (hr : Region.ready md ops listed = [i])
    (h : ∀ K : Act → World → Prop, Shut (∀ a w, ((listed.setIfInBounds i true).getD L false = true ∨ S w) → (((listed.setIfInBounds i true).getD L false = true ∨ S w) → wpAnyM P md ops Q S L fuel (listed.setIfInBounds i true) a w) → K a w) →
      if Region.wanted o (yielded ops a.tmps) = true then Oper.wp P o a w K Q else K (a.put o.dst undef) w) :
    wpAnyM P md ops Q S L (fuel + 1) listed a w := by
  have ho : ops[i]? = some o := by rwa [Array.getElem?_toList] at ho'
  refine ⟨fun h0 => (by rw [hr] at h0; cases h0), fun j hj => ?_⟩
  rw [hr] at hj
  obtain rfl : j = i := by simpa using hj
  exact wpOp_step ho (fun K' hK => h K' (fun a w hS hW => hK a w ⟨hS, hW hS⟩))

/-- Number i alone may come up; S holds behind it. -/
theorem wpAnyM_oneS (i : Nat) {o : Oper} {fuel : Nat} {listed : Array Bool} {a : Act} {w : World} (ho' : ops.toList[i]? = some o) (hr : Region.ready md ops listed = [i])
    (h : ∀ K : Act → World → Prop, Shut (∀ a w, S w → (S w → wpAnyM P md ops Q S L fuel (listed.setIfInBounds i true) a w) → K a w) →
      if Region.wanted o (yielded ops a.tmps) = true then Oper.wp P o a w K Q else K (a.put o.dst undef) w) :
    wpAnyM P md ops Q S L (fuel + 1) listed a w :=
  wpAnyM_one i ho' hr fun K hK => h K fun a w hS hM => hK a w (.inr hS) fun _ => hM hS

/-- All have come up. -/
theorem wpAnyM_done {listed : Array Bool} {a : Act} {w : World} (hr : Region.ready md ops listed = []) (h : Q .normal a w) : ∀ fuel, wpAnyM P md ops Q S L fuel listed a w
  | 0 => ⟨hr, h⟩
  | _ + 1 => ⟨fun _ => h, by rw [hr]; simp⟩

/-- The beginning. -/
theorem wp_region_M (S : World → Prop) (L : Nat) {id : Nat} {a : Act} {w : World} (hm : P.follows .mixedOrders = true) (hS : S w.drew)
    (h : S w.drew → wpAnyM P .any ops Q S L ops.size (Array.replicate ops.size false) a w.drew) : (Code.region id ops true).wp P Q a w :=
  wp_region_any hm (wpAny_of_M _ _ _ _ (h hS))
end
theorem two_cells {w : World} {b : Nat} {u0 u1 : Value} (h0 : w.cell? ⟨b, 0, none⟩ = some u0) (h1 : w.cell? ⟨b, 1, none⟩ = some u1) (v0 v1 : Value) :
    ((w.setCell ⟨b, 0, none⟩ v0).setCell ⟨b, 1, none⟩ v1).cell? ⟨b, 0, none⟩ = some v0 ∧ ((w.setCell ⟨b, 0, none⟩ v0).setCell ⟨b, 1, none⟩ v1).cell? ⟨b, 1, none⟩ = some v1 := by
  have n : (⟨b, 0, none⟩ : Addr) ≠ ⟨b, 1, none⟩ := by intro e; simp at e
  have k1 : (w.setCell ⟨b, 0, none⟩ v0).cell? ⟨b, 1, none⟩ = some u1 := (World.cell?_setCell_other _ _ _ _ n).trans h1
  exact ⟨(World.cell?_setCell_other _ _ _ _ (Ne.symm n)).trans (World.cell?_setCell_same _ _ _ h0), World.cell?_setCell_same _ _ _ k1⟩
end Go.Proofs.Ytokcdlcmamdloaa
/- Contracts of the reference's scalars (9): Div, D, MulDiv. -/
namespace Go.Proofs.Ytokcdlcmamdloaa
open Go.RowKit
set_option maxRecDepth 100000
theorem rdiv_sg (a b : Int) (hb : b ≠ 0) : rdiv a b = sv (sg2 a b) (dvM a.natAbs b.natAbs) := by
  have hd : 0 < b.natAbs := by omega
  have e := rdiv_dv false a.natAbs b.natAbs hd
  have h0 : dvM 0 b.natAbs = 0 := by unfold dvM; rw [Nat.zero_mod, Nat.zero_div, if_neg (by omega)]
  unfold rdiv
  have e2 : (((2 * a.natAbs + b.natAbs) / (2 * b.natAbs) : Nat) : Int) = (dvM a.natAbs b.natAbs : Int) := by
    have := e
    unfold rdiv sv at this
    simp only [Bool.false_eq_true, if_false, Int.natAbs_natCast] at this
    rw [if_pos (by simp; omega)] at this
    exact this
  rw [e2]
  by_cases ha0 : a = 0
  · subst ha0
    simp only [Int.natAbs_zero]
    rw [h0, sv_0]
    simp
  · unfold sv sg2
    by_cases h1 : a < 0 <;> by_cases h2 : b < 0
    · simp only [if_pos h1, if_pos h2, Bool.false_eq_true, if_false]
      rw [if_pos (by simp; omega)]
    · simp only [if_pos h1, if_neg h2, if_true]
      rw [if_neg (by simp; omega)]
    · simp only [if_neg h1, if_pos h2, if_true]
      rw [if_neg (by simp; omega)]
    · simp only [if_neg h1, if_neg h2, Bool.false_eq_true, if_false]
      rw [if_pos (by simp; omega)]
theorem sg2_pow (x y : Int) (s : Nat) : sg2 (x * 2 ^ s) y = sg2 x y := by
  have hp : (0 : Int) < 2 ^ s := Int.pow_pos (by decide)
  have : x * 2 ^ s < 0 ↔ x < 0 := by
    constructor
    · intro h; by_cases h1 : x < 0; exact h1
      have := Int.mul_nonneg (Int.not_lt.mp h1) (Int.le_of_lt hp); omega
    · intro h; exact Int.mul_neg_of_neg_of_pos h hp
  unfold sg2
  simp only [this]
set_option maxHeartbeats 1000000 in
theorem rdivs30 (c : Addr) (h : Bool) (a b x y : Int) (X Y M : Nat) (m bx b_y : Bool) (w : World) (hc : w.cell? c = some (.bool h)) (hf : w.frozen? c = false)
    (hx : satV a = x) (hy : satV b = y) (hX : x.natAbs = X) (hY : y.natAbs = Y) (hM : X * 1073741824 = M) (dx : decide (x < 0) = bx) (dy : decide (y < 0) = b_y) (hm : (!bx == b_y) = m) (y0 : (y == 0) = false) :
    Calls Try.prog 50 #[.pointer (some c), .int .i64 a, .int .i64 b, .int .i64 30] w fun e w' => e = .returned (.int .i64 (satV (sv m (dvM M Y)))) ∧ Upd c (h || satH a || satH b || satH (sv m (dvM M Y))) w w' := by
  have hcb := World.block_lt_of_cell? w c hc
  have bdx := satV_bd a
  have bdy := satV_bd b
  rw [hx] at bdx
  rw [hy] at bdy
  have y1 : 0 < Y := by have : y ≠ 0 := by simpa using y0
                        omega
  have e1 : (X : Int) / 17179869184 = hi64 (M : Int) := by rw [← hM]; unfold hi64; omega
  have e2 : IntKind.u64.wrap ((X : Int) * 1073741824) = lo64 (M : Int) := by rw [← hM, IntKind.wrap_u64]; unfold lo64; omega
  have SX := Lib.hid (fun w => rsize_any x w bdx.1 bdx.2)
  have SY := Lib.hid (fun w => rsize_any y w bdy.1 bdy.2)
  rw [hX] at SX
  rw [hY] at SY
  have DV := Lib.hid (fun w => rdivided_any M Y m w (by omega) y1 (by omega))
  have c1 : (w.setCell c (.bool (h || satH a))).cell? c = some (.bool (h || satH a)) := World.cell?_setCell_same _ _ _ hc
  have c2 : ((w.setCell c (.bool (h || satH a))).setCell c (.bool (h || satH a || satH b))).cell? c = some (.bool (h || satH a || satH b)) := World.cell?_setCell_same _ _ _ c1
  have C2 := Lib.hid c2
  clear c2 hX hY hM bdx bdy y1
  go_enter Try.func50, Try.ntmps50
  go_upto_region 2 with (refine (rsat_any c h a _ hc hf).mono ?_; rintro e w' ⟨rfl, rfl⟩)
  go_upto_region 3 with (refine (rsat_any c _ b _ c1 (by simp [hf])).mono ?_; rintro e w' ⟨rfl, rfl⟩)
  have HW := Lib.hid (Upd.trans (Upd.set c (h || satH a) w) (Upd.set c (h || satH a || satH b) _))
  have F2 : ((w.setCell c (.bool (h || satH a))).setCell c (.bool (h || satH a || satH b))).frozen? c = false := by simp [hf]
  have Z2 := Upd.size HW.out
  obtain ⟨w2, hw2⟩ : ∃ w2, (w.setCell c (.bool (h || satH a))).setCell c (.bool (h || satH a || satH b)) = w2 := ⟨_, rfl⟩
  rw [hw2] at HW C2 F2 Z2 ⊢
  clear hw2 c1 hc hf
  go_upto_region 17 with (refine (SX.out _).mono ?_; rintro e w' ⟨rfl, rfl⟩)
  have k1 : (w2.alloc (.cells #[.int .u64 (hi64 (M : Int)), .int .u64 (lo64 (M : Int)), .bool m] 103)).cell? c = some (.bool (h || satH a || satH b)) := by rw [World.cell?_alloc_lt _ _ _ (by omega)]; exact C2.out
  have k2 : (w2.alloc (.cells #[.int .u64 (hi64 (M : Int)), .int .u64 (lo64 (M : Int)), .bool m] 103)).frozen? c = false := by rw [frozen?_alloc_cells]; exact F2
  have D3 := Wid.new w2 (M : Int) m
  have B3 : Below w2.heap.size w2 (w2.alloc (.cells #[.int .u64 (hi64 (M : Int)), .int .u64 (lo64 (M : Int)), .bool m] 103)) := by (repeat (first | with_reducible exact Below.refl _ _ | with_reducible apply Below.drew | (with_reducible refine below_drewN ?_ _) | (with_reducible refine Below.alloc ?_ (by (try simp) <;> omega) _) | (with_reducible refine Below.setCell ?_ (by (try simp) <;> omega) _)))
  have z3 := D3.lt
  generalize w2.alloc (.cells #[.int .u64 (hi64 (M : Int)), .int .u64 (lo64 (M : Int)), .bool m] 103) = w3 at *
  have B3 := Lib.hid B3
  obtain ⟨⟨d0, d1, d2⟩, _⟩ := D3.c
  have nc : ∀ o, c ≠ ⟨w2.heap.size, o, none⟩ := fun o e => by rw [e] at hcb; simp at hcb; omega
  clear C2 F2 D3
  refine wp_region_M (fun w' => w'.cell? ⟨w2.heap.size, 0, none⟩ = some (.int .u64 (hi64 (M : Int))) ∧ w'.cell? ⟨w2.heap.size, 1, none⟩ = some (.int .u64 (lo64 (M : Int))) ∧ w'.cell? ⟨w2.heap.size, 2, none⟩ = some (.bool m)) 6 (by kernel_rfl) ?_ (fun hHeld => ?_)
  · exact ⟨d0, d1, d2⟩
  refine wpAnyM_take 0 (v := ?_) rfl (by kernel_rfl) (fun _ _ _ h => h) (Or.inl ⟨by rfl, ?_⟩) (by assumption) ?_
  rotate_left
  · (intro wx hSw; (try dsimp only at hSw); go_simp; (try with_reducible rfl))
  (try simp only [Act.put, List.setIfInBounds_toArray, List.set_cons_zero, List.set_cons_succ])
  refine wpAnyM_take 1 (v := ?_) rfl (by kernel_rfl) (fun _ _ _ h => h) (Or.inl ⟨by rfl, ?_⟩) (by assumption) ?_
  rotate_left
  · (intro wx hSw; (try dsimp only at hSw); go_simp; (try with_reducible rfl))
  (try simp only [Act.put, List.setIfInBounds_toArray, List.set_cons_zero, List.set_cons_succ])
  refine wpAnyM_take 2 (v := ?_) rfl (by kernel_rfl) (fun _ _ _ h => h) (Or.inl ⟨by rfl, ?_⟩) (by assumption) ?_
  rotate_left
  · (intro wx hSw; (try dsimp only at hSw); go_simp; (try with_reducible rfl))
  (try simp only [Act.put, List.setIfInBounds_toArray, List.set_cons_zero, List.set_cons_succ])
  refine wpAnyM_oneS 3 rfl (by kernel_rfl) (fun K hK => ?_)
  go_simp
  (refine (SY.out _).mono ?_; rintro e w' ⟨rfl, rfl⟩)
  (try dsimp only)
  (try simp only [Act.put, List.setIfInBounds_toArray, List.set_cons_zero, List.set_cons_succ])
  clear hHeld
  refine hK.out _ _ ?_ (fun hHeld => ?_)
  · exact ⟨d0, d1, d2⟩
  clear hK K
  (try simp only [Act.put, List.setIfInBounds_toArray, List.set_cons_zero, List.set_cons_succ])
  refine wpAnyM_oneS 4 rfl (by kernel_rfl) (fun K hK => ?_)
  go_simp
  (refine (DV.out _).mono ?_; rintro e w4 ⟨rfl, hb4⟩)
  (try dsimp only)
  (try simp only [Act.put, List.setIfInBounds_toArray, List.set_cons_zero, List.set_cons_succ])
  clear hHeld
  refine hK.out _ _ ?_ (fun hHeld => ?_)
  · exact ⟨(hb4.cell z3).trans d0, (hb4.cell z3).trans d1, (hb4.cell z3).trans d2⟩
  clear hK K
  (try simp only [Act.put, List.setIfInBounds_toArray, List.set_cons_zero, List.set_cons_succ])
  refine wpAnyM_oneS 5 rfl (by kernel_rfl) (fun K hK => ?_)
  go_simp
  (refine (rend2_any c _ (dvM M Y) m _ ((hb4.cell (by (try simp); omega)).trans (by simpa using k1)) ((hb4.frozen (by (try simp); omega)).trans (by simpa using k2))).mono ?_; rintro e w5 ⟨rfl, hu5⟩)
  (try dsimp only)
  (try simp only [Act.put, List.setIfInBounds_toArray, List.set_cons_zero, List.set_cons_succ])
  clear hHeld
  refine hK.out _ _ ?_ (fun hHeld => ?_)
  · have z4 : w2.heap.size < w4.heap.size := Nat.lt_of_lt_of_le z3 hb4.size; exact ⟨(hu5.cell z4 (nc 0)).trans ((hb4.cell z3).trans d0), (hu5.cell z4 (nc 1)).trans ((hb4.cell z3).trans d1), (hu5.cell z4 (nc 2)).trans ((hb4.cell z3).trans d2)⟩
  clear hK K
  (try simp only [Act.put, List.setIfInBounds_toArray, List.set_cons_zero, List.set_cons_succ])
  refine wpAnyM_one 6 rfl (by kernel_rfl) (fun K hK => ?_)
  go_simp
  refine hK.out _ _ (.inl (by kernel_rfl)) (fun _ => ?_)
  clear hK K
  (try simp only [Act.put, List.setIfInBounds_toArray, List.set_cons_zero, List.set_cons_succ])
  refine wpAnyM_done (by kernel_rfl) ?_ _
  go_wp2_with fail
  go_ret
  refine ⟨rfl, ?_⟩
  exact HW.out.trans (Upd.after B3.out (Upd.after (Below.drew (Below.refl _ _)) (Upd.after hb4 hu5)))
set_option maxHeartbeats 1000000 in
theorem rdivs44 (c : Addr) (h : Bool) (a b x y : Int) (X Y M : Nat) (m bx b_y : Bool) (w : World) (hc : w.cell? c = some (.bool h)) (hf : w.frozen? c = false)
    (hx : satV a = x) (hy : satV b = y) (hX : x.natAbs = X) (hY : y.natAbs = Y) (hM : X * 17592186044416 = M) (dx : decide (x < 0) = bx) (dy : decide (y < 0) = b_y) (hm : (!bx == b_y) = m) (y0 : (y == 0) = false) :
    Calls Try.prog 50 #[.pointer (some c), .int .i64 a, .int .i64 b, .int .i64 44] w fun e w' => e = .returned (.int .i64 (satV (sv m (dvM M Y)))) ∧ Upd c (h || satH a || satH b || satH (sv m (dvM M Y))) w w' := by
  have hcb := World.block_lt_of_cell? w c hc
  have bdx := satV_bd a
  have bdy := satV_bd b
  rw [hx] at bdx
  rw [hy] at bdy
  have y1 : 0 < Y := by have : y ≠ 0 := by simpa using y0
                        omega
  have e1 : (X : Int) / 1048576 = hi64 (M : Int) := by rw [← hM]; unfold hi64; omega
  have e2 : IntKind.u64.wrap ((X : Int) * 17592186044416) = lo64 (M : Int) := by rw [← hM, IntKind.wrap_u64]; unfold lo64; omega
  have SX := Lib.hid (fun w => rsize_any x w bdx.1 bdx.2)
  have SY := Lib.hid (fun w => rsize_any y w bdy.1 bdy.2)
  rw [hX] at SX
  rw [hY] at SY
  have DV := Lib.hid (fun w => rdivided_any M Y m w (by omega) y1 (by omega))
  have c1 : (w.setCell c (.bool (h || satH a))).cell? c = some (.bool (h || satH a)) := World.cell?_setCell_same _ _ _ hc
  have c2 : ((w.setCell c (.bool (h || satH a))).setCell c (.bool (h || satH a || satH b))).cell? c = some (.bool (h || satH a || satH b)) := World.cell?_setCell_same _ _ _ c1
  have C2 := Lib.hid c2
  clear c2 hX hY hM bdx bdy y1
  go_enter Try.func50, Try.ntmps50
  go_upto_region 2 with (refine (rsat_any c h a _ hc hf).mono ?_; rintro e w' ⟨rfl, rfl⟩)
  go_upto_region 3 with (refine (rsat_any c _ b _ c1 (by simp [hf])).mono ?_; rintro e w' ⟨rfl, rfl⟩)
  have HW := Lib.hid (Upd.trans (Upd.set c (h || satH a) w) (Upd.set c (h || satH a || satH b) _))
  have F2 : ((w.setCell c (.bool (h || satH a))).setCell c (.bool (h || satH a || satH b))).frozen? c = false := by simp [hf]
  have Z2 := Upd.size HW.out
  obtain ⟨w2, hw2⟩ : ∃ w2, (w.setCell c (.bool (h || satH a))).setCell c (.bool (h || satH a || satH b)) = w2 := ⟨_, rfl⟩
  rw [hw2] at HW C2 F2 Z2 ⊢
  clear hw2 c1 hc hf
  go_upto_region 17 with (refine (SX.out _).mono ?_; rintro e w' ⟨rfl, rfl⟩)
  have k1 : (w2.alloc (.cells #[.int .u64 (hi64 (M : Int)), .int .u64 (lo64 (M : Int)), .bool m] 103)).cell? c = some (.bool (h || satH a || satH b)) := by rw [World.cell?_alloc_lt _ _ _ (by omega)]; exact C2.out
  have k2 : (w2.alloc (.cells #[.int .u64 (hi64 (M : Int)), .int .u64 (lo64 (M : Int)), .bool m] 103)).frozen? c = false := by rw [frozen?_alloc_cells]; exact F2
  have D3 := Wid.new w2 (M : Int) m
  have B3 : Below w2.heap.size w2 (w2.alloc (.cells #[.int .u64 (hi64 (M : Int)), .int .u64 (lo64 (M : Int)), .bool m] 103)) := by (repeat (first | with_reducible exact Below.refl _ _ | with_reducible apply Below.drew | (with_reducible refine below_drewN ?_ _) | (with_reducible refine Below.alloc ?_ (by (try simp) <;> omega) _) | (with_reducible refine Below.setCell ?_ (by (try simp) <;> omega) _)))
  have z3 := D3.lt
  generalize w2.alloc (.cells #[.int .u64 (hi64 (M : Int)), .int .u64 (lo64 (M : Int)), .bool m] 103) = w3 at *
  have B3 := Lib.hid B3
  obtain ⟨⟨d0, d1, d2⟩, _⟩ := D3.c
  have nc : ∀ o, c ≠ ⟨w2.heap.size, o, none⟩ := fun o e => by rw [e] at hcb; simp at hcb; omega
  clear C2 F2 D3
  refine wp_region_M (fun w' => w'.cell? ⟨w2.heap.size, 0, none⟩ = some (.int .u64 (hi64 (M : Int))) ∧ w'.cell? ⟨w2.heap.size, 1, none⟩ = some (.int .u64 (lo64 (M : Int))) ∧ w'.cell? ⟨w2.heap.size, 2, none⟩ = some (.bool m)) 6 (by kernel_rfl) ?_ (fun hHeld => ?_)
  · exact ⟨d0, d1, d2⟩
  refine wpAnyM_take 0 (v := ?_) rfl (by kernel_rfl) (fun _ _ _ h => h) (Or.inl ⟨by rfl, ?_⟩) (by assumption) ?_
  rotate_left
  · (intro wx hSw; (try dsimp only at hSw); go_simp; (try with_reducible rfl))
  (try simp only [Act.put, List.setIfInBounds_toArray, List.set_cons_zero, List.set_cons_succ])
  refine wpAnyM_take 1 (v := ?_) rfl (by kernel_rfl) (fun _ _ _ h => h) (Or.inl ⟨by rfl, ?_⟩) (by assumption) ?_
  rotate_left
  · (intro wx hSw; (try dsimp only at hSw); go_simp; (try with_reducible rfl))
  (try simp only [Act.put, List.setIfInBounds_toArray, List.set_cons_zero, List.set_cons_succ])
  refine wpAnyM_take 2 (v := ?_) rfl (by kernel_rfl) (fun _ _ _ h => h) (Or.inl ⟨by rfl, ?_⟩) (by assumption) ?_
  rotate_left
  · (intro wx hSw; (try dsimp only at hSw); go_simp; (try with_reducible rfl))
  (try simp only [Act.put, List.setIfInBounds_toArray, List.set_cons_zero, List.set_cons_succ])
  refine wpAnyM_oneS 3 rfl (by kernel_rfl) (fun K hK => ?_)
  go_simp
  (refine (SY.out _).mono ?_; rintro e w' ⟨rfl, rfl⟩)
  (try dsimp only)
  (try simp only [Act.put, List.setIfInBounds_toArray, List.set_cons_zero, List.set_cons_succ])
  clear hHeld
  refine hK.out _ _ ?_ (fun hHeld => ?_)
  · exact ⟨d0, d1, d2⟩
  clear hK K
  (try simp only [Act.put, List.setIfInBounds_toArray, List.set_cons_zero, List.set_cons_succ])
  refine wpAnyM_oneS 4 rfl (by kernel_rfl) (fun K hK => ?_)
  go_simp
  (refine (DV.out _).mono ?_; rintro e w4 ⟨rfl, hb4⟩)
  (try dsimp only)
  (try simp only [Act.put, List.setIfInBounds_toArray, List.set_cons_zero, List.set_cons_succ])
  clear hHeld
  refine hK.out _ _ ?_ (fun hHeld => ?_)
  · exact ⟨(hb4.cell z3).trans d0, (hb4.cell z3).trans d1, (hb4.cell z3).trans d2⟩
  clear hK K
  (try simp only [Act.put, List.setIfInBounds_toArray, List.set_cons_zero, List.set_cons_succ])
  refine wpAnyM_oneS 5 rfl (by kernel_rfl) (fun K hK => ?_)
  go_simp
  (refine (rend2_any c _ (dvM M Y) m _ ((hb4.cell (by (try simp); omega)).trans (by simpa using k1)) ((hb4.frozen (by (try simp); omega)).trans (by simpa using k2))).mono ?_; rintro e w5 ⟨rfl, hu5⟩)
  (try dsimp only)
  (try simp only [Act.put, List.setIfInBounds_toArray, List.set_cons_zero, List.set_cons_succ])
  clear hHeld
  refine hK.out _ _ ?_ (fun hHeld => ?_)
  · have z4 : w2.heap.size < w4.heap.size := Nat.lt_of_lt_of_le z3 hb4.size; exact ⟨(hu5.cell z4 (nc 0)).trans ((hb4.cell z3).trans d0), (hu5.cell z4 (nc 1)).trans ((hb4.cell z3).trans d1), (hu5.cell z4 (nc 2)).trans ((hb4.cell z3).trans d2)⟩
  clear hK K
  (try simp only [Act.put, List.setIfInBounds_toArray, List.set_cons_zero, List.set_cons_succ])
  refine wpAnyM_one 6 rfl (by kernel_rfl) (fun K hK => ?_)
  go_simp
  refine hK.out _ _ (.inl (by kernel_rfl)) (fun _ => ?_)
  clear hK K
  (try simp only [Act.put, List.setIfInBounds_toArray, List.set_cons_zero, List.set_cons_succ])
  refine wpAnyM_done (by kernel_rfl) ?_ _
  go_wp2_with fail
  go_ret
  refine ⟨rfl, ?_⟩
  exact HW.out.trans (Upd.after B3.out (Upd.after (Below.drew (Below.refl _ _)) (Upd.after hb4 hu5)))
set_option maxHeartbeats 2000000 in
theorem rdivs0 (c : Addr) (h : Bool) (a b s : Int) (w : World) (hc : w.cell? c = some (.bool h)) (hf : w.frozen? c = false) (hy : satV b = 0) :
    Calls Try.prog 50 #[.pointer (some c), .int .i64 a, .int .i64 b, .int .i64 s] w fun e w' =>
      e = .returned (.int .i64 (if satV a = 0 then 0 else if satV a < 0 then -1152921504606846976 else 1152921504606846976)) ∧ Upd c true w w' := by
  obtain ⟨x, hx⟩ : ∃ x, satV a = x := ⟨_, rfl⟩
  have c1 : (w.setCell c (.bool (h || satH a))).cell? c = some (.bool (h || satH a)) := World.cell?_setCell_same _ _ _ hc
  have c2 : ((w.setCell c (.bool (h || satH a))).setCell c (.bool (h || satH a || satH b))).cell? c = some (.bool (h || satH a || satH b)) := World.cell?_setCell_same _ _ _ c1
  have F2 : ((w.setCell c (.bool (h || satH a))).setCell c (.bool (h || satH a || satH b))).frozen? c = false := by simp [hf]
  have HV := Lib.hid (show ∀ v, (if x = 0 then 0 else if x < 0 then -1152921504606846976 else 1152921504606846976) = v → (if satV a = 0 then 0 else if satV a < 0 then -1152921504606846976 else 1152921504606846976) = v from fun v hv => by rw [hx]; exact hv)
  have C2 := Lib.hid c2
  have HF2 := Lib.hid F2
  clear c2 F2
  have HX := Lib.hid (show (0 < x ∨ x = 0 ∨ x < 0) by omega)
  rcases HX.out with g | g | g
  · have g1 : decide (0 < x) = true := by simpa using g
    rw [HV.out 1152921504606846976 (by rw [if_neg (by omega), if_neg (by omega)])]
    clear HX HV g
    go_enter Try.func50, Try.ntmps50
    go_upto_region 2 with (refine (rsat_any c h a _ hc hf).mono ?_; rintro e w' ⟨rfl, rfl⟩)
    go_upto_region 3 with (refine (rsat_any c _ b _ c1 (by simp [hf])).mono ?_; rintro e w' ⟨rfl, rfl⟩)
    have HW := Lib.hid (Upd.trans (Upd.trans (Upd.set c (h || satH a) w) (Upd.set c (h || satH a || satH b) _)) (Upd.set c true _))
    have c2 := C2.out
    have f2 := HF2.out
    clear C2 HF2 c1
    generalize (w.setCell c (.bool (h || satH a))).setCell c (.bool (h || satH a || satH b)) = w2 at *
    go_wp2_with fail
    go_ret
    exact ⟨rfl, HW.out⟩
  · subst g
    have g1 : decide ((0 : Int) < 0) = false := by decide
    rw [HV.out 0 (by rw [if_pos rfl])]
    clear HX HV
    go_enter Try.func50, Try.ntmps50
    go_upto_region 2 with (refine (rsat_any c h a _ hc hf).mono ?_; rintro e w' ⟨rfl, rfl⟩)
    go_upto_region 3 with (refine (rsat_any c _ b _ c1 (by simp [hf])).mono ?_; rintro e w' ⟨rfl, rfl⟩)
    have HW := Lib.hid (Upd.trans (Upd.trans (Upd.set c (h || satH a) w) (Upd.set c (h || satH a || satH b) _)) (Upd.set c true _))
    have c2 := C2.out
    have f2 := HF2.out
    clear C2 HF2 c1
    generalize (w.setCell c (.bool (h || satH a))).setCell c (.bool (h || satH a || satH b)) = w2 at *
    go_wp2_with fail
    go_ret
    exact ⟨rfl, HW.out⟩
  · have g1 : decide (0 < x) = false := by simp; omega
    have g2 : decide (x < 0) = true := by simpa using g
    rw [HV.out (-1152921504606846976) (by rw [if_neg (by omega), if_pos g])]
    clear HX HV g
    go_enter Try.func50, Try.ntmps50
    go_upto_region 2 with (refine (rsat_any c h a _ hc hf).mono ?_; rintro e w' ⟨rfl, rfl⟩)
    go_upto_region 3 with (refine (rsat_any c _ b _ c1 (by simp [hf])).mono ?_; rintro e w' ⟨rfl, rfl⟩)
    have HW := Lib.hid (Upd.trans (Upd.trans (Upd.set c (h || satH a) w) (Upd.set c (h || satH a || satH b) _)) (Upd.set c true _))
    have c2 := C2.out
    have f2 := HF2.out
    clear C2 HF2 c1
    generalize (w.setCell c (.bool (h || satH a))).setCell c (.bool (h || satH a || satH b)) = w2 at *
    go_wp2_with fail
    go_ret
    exact ⟨rfl, HW.out⟩
theorem dv_fact (s : Nat) (x y : Int) (X M P : Nat) (hX : x.natAbs = X) (hp : 2 ^ s = P) (hM : X * P = M) (hy : y ≠ 0) : rdiv (x * 2 ^ s) y = sv (sg2 x y) (dvM M y.natAbs) := by
  rw [rdiv_sg _ _ hy, sg2_pow]
  congr 2
  rw [Int.natAbs_mul, hX, ← hM, ← hp]
  congr 1
theorem sg2_ne (x y : Int) : (!decide (x < 0) == decide (y < 0)) = sg2 x y := by
  unfold sg2
  by_cases h1 : x < 0 <;> by_cases h2 : y < 0 <;> simp [h1, h2]
theorem rdiv30_any (c : Addr) (h : Bool) (a b : Int) (w : World) (hc : w.cell? c = some (.bool h)) (hf : w.frozen? c = false) :
    Calls Try.prog 50 #[.pointer (some c), .int .i64 a, .int .i64 b, .int .i64 30] w fun e w' => e = .returned (.int .i64 (divV a b 30)) ∧ Upd c (h || divH a b 30) w w' := by
  by_cases hy : satV b = 0
  · have e2 : (h || divH a b 30) = true := by simp [divH, byH, hy]
    have hp : (0 : Int) < 2 ^ 30 := by decide
    have e1 : divV a b 30 = (if satV a = 0 then 0 else if satV a < 0 then -1152921504606846976 else 1152921504606846976) := by
      unfold divV byV
      rw [if_neg (by decide), if_pos hy]
      rw [show ((30 : Int).toNat) = 30 from rfl]
      generalize satV a = x
      have k : (2 : Int) ^ 30 = 1073741824 := by decide
      rw [k]
      by_cases h0 : x = 0
      · rw [if_pos (by omega), if_pos h0]
      · rw [if_neg (by omega), if_neg h0]
        by_cases h1 : x < 0
        · rw [if_pos (by omega), if_pos h1]
        · rw [if_neg (by omega), if_neg h1]
    rw [e1, e2]
    exact rdivs0 c h a b 30 w hc hf hy
  · have k := dv_fact 30 (satV a) (satV b) _ _ 1073741824 rfl (by decide) rfl hy
    have e1 : divV a b 30 = satV (sv (sg2 (satV a) (satV b)) (dvM ((satV a).natAbs * 1073741824) (satV b).natAbs)) := by
      rw [← k]; unfold divV byV
      rw [if_neg (by decide), if_neg hy]; rfl
    have e2 : (h || divH a b 30) = (h || satH a || satH b || satH (sv (sg2 (satV a) (satV b)) (dvM ((satV a).natAbs * 1073741824) (satV b).natAbs))) := by
      rw [← k]; unfold divH byH
      rw [show decide ((30 : Int) < 0 ∨ 66 < (30 : Int)) = false by decide, show decide (satV b = 0) = false by simpa using hy]
      simp only [Bool.false_or, Bool.or_assoc]; rfl
    rw [e1, e2]
    exact rdivs30 c h a b _ _ _ _ _ _ _ _ w hc hf rfl rfl rfl rfl rfl rfl rfl (sg2_ne _ _) (by simpa using hy)
theorem rdiv44_any (c : Addr) (h : Bool) (a b : Int) (w : World) (hc : w.cell? c = some (.bool h)) (hf : w.frozen? c = false) :
    Calls Try.prog 50 #[.pointer (some c), .int .i64 a, .int .i64 b, .int .i64 44] w fun e w' => e = .returned (.int .i64 (divV a b 44)) ∧ Upd c (h || divH a b 44) w w' := by
  by_cases hy : satV b = 0
  · have e2 : (h || divH a b 44) = true := by simp [divH, byH, hy]
    have hp : (0 : Int) < 2 ^ 44 := by decide
    have e1 : divV a b 44 = (if satV a = 0 then 0 else if satV a < 0 then -1152921504606846976 else 1152921504606846976) := by
      unfold divV byV
      rw [if_neg (by decide), if_pos hy]
      rw [show ((44 : Int).toNat) = 44 from rfl]
      generalize satV a = x
      have k : (2 : Int) ^ 44 = 17592186044416 := by decide
      rw [k]
      by_cases h0 : x = 0
      · rw [if_pos (by omega), if_pos h0]
      · rw [if_neg (by omega), if_neg h0]
        by_cases h1 : x < 0
        · rw [if_pos (by omega), if_pos h1]
        · rw [if_neg (by omega), if_neg h1]
    rw [e1, e2]
    exact rdivs0 c h a b 44 w hc hf hy
  · have k := dv_fact 44 (satV a) (satV b) _ _ 17592186044416 rfl (by decide) rfl hy
    have e1 : divV a b 44 = satV (sv (sg2 (satV a) (satV b)) (dvM ((satV a).natAbs * 17592186044416) (satV b).natAbs)) := by
      rw [← k]; unfold divV byV
      rw [if_neg (by decide), if_neg hy]; rfl
    have e2 : (h || divH a b 44) = (h || satH a || satH b || satH (sv (sg2 (satV a) (satV b)) (dvM ((satV a).natAbs * 17592186044416) (satV b).natAbs))) := by
      rw [← k]; unfold divH byH
      rw [show decide ((44 : Int) < 0 ∨ 66 < (44 : Int)) = false by decide, show decide (satV b = 0) = false by simpa using hy]
      simp only [Bool.false_or, Bool.or_assoc]; rfl
    rw [e1, e2]
    exact rdivs44 c h a b _ _ _ _ _ _ _ _ w hc hf rfl rfl rfl rfl rfl rfl rfl (sg2_ne _ _) (by simpa using hy)
theorem rd_any (c : Addr) (h : Bool) (a b : Int) (w : World) (hc : w.cell? c = some (.bool h)) (hf : w.frozen? c = false) :
    Calls Try.prog 41 #[.pointer (some c), .int .i64 a, .int .i64 b] w fun e w' => e = .returned (.int .i64 (divV a b 30)) ∧ Upd c (h || divH a b 30) w w' := by
  go_enter Try.func41, Try.ntmps41
  go_wp2_with fail
  refine (rdiv30_any c h a b _ hc hf).mono ?_; rintro e w1 ⟨rfl, hu⟩
  go_wp2_with fail
  go_ret
  exact ⟨rfl, hu⟩
end Go.Proofs.Ytokcdlcmamdloaa
