/- Contracts of the program's functions and plain laws, part 15: they hold for all arguments. -/
import Derived.Test.YtanmddenleffaaaQ13
import Derived.Test.YtanmddenleffaaaQ08
import Derived.Test.YtanmddenleffaaaQ06
import Derived.Deep.Cut
import Derived.Deep.CutRange
import Derived.Test.YtanmddenleffaaaQ03
import Derived.Test.YtanmddenleffaaaQ04
/- Two numbers appended to a slice of the call's own; contract of jac's sum.add. -/
namespace Go.Proofs.Ytanmddenleffaaa
open Go.RowKit
open Go
set_option maxRecDepth 100000
theorem own_snoc2 {n : Nat} {L : Nat → Int} {x y : Int} : ints n L ++ [.int .i64 x, .int .i64 y] = ints (n + 2) (upd (upd L n x) (n + 1) y) := by
  rw [show n + 2 = (n + 1) + 1 from rfl, ints_succ, ints_succ, List.append_assoc]
  congr 1
  · exact ints_congr fun i hi => by simp [upd, show ¬ i = n by omega, show ¬ i = n + 1 by omega]
  · simp [upd]
theorem run_app2 {w : World} (B : Nat) {v : Value} {n : Nat} {L : Nat → Int} (hown : Own w B 2 v n L) (nb c : Nat) (x y : Int) (hx : w.cell? ⟨nb, 0, none⟩ = some (.int .i64 x)) (hy : w.cell? ⟨nb, 1, none⟩ = some (.int .i64 y)) (hn : n ≤ 1000000) (hB : B ≤ w.heap.size) (ty : TypeId) (H : Nat) (hH : w.heap.size = H) :
    ∃ g cap w', (Builtin.append_ #[50, 50] ty #[v, .slice (some ⟨nb, 0, none⟩) 2 c]).run Try.prog w = .ok (.slice (some ⟨g, 0, none⟩) (n + 2) cap) w' ∧
      Own w' B 2 (.slice (some ⟨g, 0, none⟩) (n + 2) cap) (n + 2) (upd (upd L n x) (n + 1) y) ∧ w.grownBy w' v.ownBlock ∧ (v.ownBlock = some g ∨ g = H) ∧ g < w'.heap.size := by
  obtain ⟨i, hi, hz, hs, hb⟩ := info_i64'
  obtain ⟨g, cap, w', h1, h2, h3, h4, h5⟩ := run_append_lies (P := Try.prog) w 50 ty B 2 i (.int .i64 0) 1 8 Try.underlying50 hi hz hs hb rfl (by decide) v n (ints n L) hown ⟨nb, 0, none⟩ 2 c [.int .i64 x, .int .i64 y] rfl
    (fun j u hu => by
      have hj : j < 2 := by
        have := List.getElem?_eq_some_iff.1 hu
        obtain ⟨h, _⟩ := this
        simpa using h
      obtain rfl | rfl : j = 0 ∨ j = 1 := by omega
      · simp at hu; subst hu; simpa [Addr.add] using hx
      · simp at hu; subst hu; simpa [Addr.add] using hy) (fun u hu => by simp at hu; rcases hu with rfl | rfl <;> rfl) (by decide) (by unfold maxLen; omega) (by omega) hB H hH
  exact ⟨g, cap, w', h1, by unfold Own; rw [← own_snoc2]; exact h2, h3, h4, h5⟩
theorem wpList_app2 {w : World} {ops : Array Oper} {rest : List Oper} {o : Oper} {a : Act} {Q : Exit → Act → World → Prop} (hgd : o.guard = none) (s x : Operand)
    (ho : o.op = .call { callee := .builtin .append, args := #[s, x], argTypes := #[50, 50] })
    (B : Nat) {v : Value} {n : Nat} {L : Nat → Int} (hs : a.eval s = v) (hown : Own w B 2 v n L) (nb c : Nat) (y z : Int) (hx : a.eval x = .slice (some ⟨nb, 0, none⟩) 2 c) (hy : w.cell? ⟨nb, 0, none⟩ = some (.int .i64 y)) (hz : w.cell? ⟨nb, 1, none⟩ = some (.int .i64 z)) (hn : n ≤ 1000000) (hB : B ≤ w.heap.size) (H : Nat) (hH : w.heap.size = H)
    (h : ∀ g cap w', Own w' B 2 (.slice (some ⟨g, 0, none⟩) (n + 2) cap) (n + 2) (upd (upd L n y) (n + 1) z) → w.grownBy w' v.ownBlock → (v.ownBlock = some g ∨ g = H) → g < w'.heap.size → wpList Try.prog ops Q rest (a.put o.dst (.slice (some ⟨g, 0, none⟩) (n + 2) cap)) w') : wpList Try.prog ops Q (o :: rest) a w :=
  wpList_plain hgd fun K hK => by
    obtain ⟨g, cap, w', hr, h2, h3, h4, h5⟩ := run_app2 B hown nb c y z hy hz hn hB o.type H hH
    unfold Oper.wp execOp
    simp only [ho, resolve, invoke, builtin, Sem.run_bind, Sem.run_pure, Result.andThen_ok, List.map_toArray, List.map_cons, List.map_nil, hs, hx, hr]
    exact hK _ _ (h g cap w' h2 h3 h4 h5)
/-- A sum that is gathered: two slices, in blocks behind its own. -/
structure SumR (sb n : Nat) (A B : Nat → Int) (w : World) : Prop where
  blk : ∃ va vb, w.heap[sb]? = some (.cells #[va, vb] 76 (0, 0)) ∧ Own w (sb + 1) 2 va n A ∧ Own w (sb + 1) 2 vb n B ∧ ∀ g, va.ownBlock = some g → vb.ownBlock ≠ some g
theorem SumR.lt {sb n : Nat} {A B : Nat → Int} {w : World} (s : SumR sb n A B w) : sb < w.heap.size := by
  obtain ⟨va, vb, h, _⟩ := s.blk
  exact (Array.getElem?_eq_some_iff.1 h).1
theorem SumR.below {sb n : Nat} {A B : Nat → Int} {w w' : World} (s : SumR sb n A B w) (b : Below w.heap.size w w') : SumR sb n A B w' := by
  have l := s.lt
  obtain ⟨va, vb, h, h1, h2, h3⟩ := s.blk
  exact ⟨va, vb, (b.block sb l).trans h, h1.below b, h2.below b, h3⟩
theorem SumR.upd {sb n : Nat} {A B : Nat → Int} {w w' : World} (s : SumR sb n A B w) {c : Addr} {f : Bool} (u : Upd c f w w') (hc : c.block < sb) : SumR sb n A B w' := by
  have l := s.lt
  obtain ⟨va, vb, h, h1, h2, h3⟩ := s.blk
  exact ⟨va, vb, (u.block l (by omega)).trans h, h1.upd u (by omega), h2.upd u (by omega), h3⟩
theorem SumR.new (w : World) (A B : Nat → Int) : SumR w.heap.size 0 A B (w.alloc (.cells #[.slice none 0 0, .slice none 0 0] 76)) :=
  ⟨_, _, heap_alloc_new w _, Own.nil _ _ _ _, Own.nil _ _ _ _, fun g hg => by cases hg⟩
theorem SumR.congr {sb n : Nat} {A B A' B' : Nat → Int} {w : World} (s : SumR sb n A B w) (e1 : ∀ i, i < n → A i = A' i) (e2 : ∀ i, i < n → B i = B' i) : SumR sb n A' B' w := by
  obtain ⟨va, vb, h, h1, h2, h3⟩ := s.blk
  exact ⟨va, vb, h, h1.congr e1, h2.congr e2, h3⟩
theorem cell_two {w : World} {sb : Nat} {va vb : Value} (h : w.heap[sb]? = some (.cells #[va, vb] 76 (0, 0))) : w.cell? ⟨sb, 0, none⟩ = some va ∧ w.cell? ⟨sb, 1, none⟩ = some vb ∧ w.frozen? ⟨sb, 0, none⟩ = false ∧ w.frozen? ⟨sb, 1, none⟩ = false := by
  refine ⟨?_, ?_, frozen_of_row w sb 0 _ _ h, frozen_of_row w sb 1 _ _ h⟩
  · rw [cell_of_row w sb 0 _ _ _ h]; rfl
  · rw [cell_of_row w sb 1 _ _ _ h]; rfl
theorem setCell_two0 {w : World} {sb : Nat} {va vb : Value} (h : w.heap[sb]? = some (.cells #[va, vb] 76 (0, 0))) (x : Value) : (w.setCell ⟨sb, 0, none⟩ x).heap[sb]? = some (.cells #[x, vb] 76 (0, 0)) := heap_setCell_same w sb 0 _ _ x h
theorem setCell_two1 {w : World} {sb : Nat} {va vb : Value} (h : w.heap[sb]? = some (.cells #[va, vb] 76 (0, 0))) (x : Value) : (w.setCell ⟨sb, 1, none⟩ x).heap[sb]? = some (.cells #[va, x] 76 (0, 0)) := heap_setCell_same w sb 1 _ _ x h
/-- The first slice is longer by two. -/
theorem sum_g0 {sb n g cap H : Nat} {A A' B : Nat → Int} {va vb : Value} {w w' : World} (h : w.heap[sb]? = some (.cells #[va, vb] 76 (0, 0))) (h1 : Own w (sb + 1) 2 va n A) (h2 : Own w (sb + 1) 2 vb n B) (h3 : ∀ g, va.ownBlock = some g → vb.ownBlock ≠ some g)
    (ho : Own w' (sb + 1) 2 (.slice (some ⟨g, 0, none⟩) (n + 2) cap) (n + 2) A') (hg : w.grownBy w' va.ownBlock) (hat : va.ownBlock = some g ∨ g = H) (hH : w.heap.size = H) :
    w'.heap[sb]? = some (.cells #[va, vb] 76 (0, 0)) ∧ Own w' (sb + 1) 2 vb n B ∧ (∀ k, (Value.slice (some ⟨g, 0, none⟩) (n + 2) cap).ownBlock = some k → vb.ownBlock ≠ some k) ∧ Below (sb + 1) w w' := by
  have l := (Array.getElem?_eq_some_iff.1 h).1
  have own : ∀ k, va.ownBlock = some k → sb + 1 ≤ k := fun k e => (World.ownsRow.lt h1 k e).1
  refine ⟨(hg.block sb l (fun e => by have := own sb e.symm; omega)).trans h, h2.grown hg (fun k hk e => h3 k e hk), fun k hk e => ?_, below_grown (Below.refl _ _) hg (fun k e => own k e) l⟩
  have hk' : g = k := by simpa [Value.ownBlock] using hk
  subst hk'
  rcases hat with h | h
  · exact h3 _ h e
  · have := (World.ownsRow.lt h2 g e).2; omega
/-- The second slice is longer by two. -/
theorem sum_g1 {sb n m g cap H : Nat} {A B B' : Nat → Int} {va vb : Value} {w w' : World} (h : w.heap[sb]? = some (.cells #[va, vb] 76 (0, 0))) (h1 : Own w (sb + 1) 2 va m A) (h2 : Own w (sb + 1) 2 vb n B) (h3 : ∀ g, va.ownBlock = some g → vb.ownBlock ≠ some g)
    (ho : Own w' (sb + 1) 2 (.slice (some ⟨g, 0, none⟩) (n + 2) cap) (n + 2) B') (hg : w.grownBy w' vb.ownBlock) (hat : vb.ownBlock = some g ∨ g = H) (hH : w.heap.size = H) :
    w'.heap[sb]? = some (.cells #[va, vb] 76 (0, 0)) ∧ Own w' (sb + 1) 2 va m A ∧ (∀ k, va.ownBlock = some k → (Value.slice (some ⟨g, 0, none⟩) (n + 2) cap).ownBlock ≠ some k) ∧ Below (sb + 1) w w' := by
  have l := (Array.getElem?_eq_some_iff.1 h).1
  have own : ∀ k, vb.ownBlock = some k → sb + 1 ≤ k := fun k e => (World.ownsRow.lt h2 k e).1
  refine ⟨(hg.block sb l (fun e => by have := own sb e.symm; omega)).trans h, h1.grown hg (fun k hk e => h3 k hk e), fun k hk e => ?_, below_grown (Below.refl _ _) hg (fun k e => own k e) l⟩
  have hk' : g = k := by simpa [Value.ownBlock] using e
  subst hk'
  rcases hat with h | h
  · exact h3 _ hk h
  · have := (World.ownsRow.lt h1 g hk).2; omega
end Go.Proofs.Ytanmddenleffaaa
/- Contract of jac's sum.add. -/
namespace Go.Proofs.Ytanmddenleffaaa
open Go.RowKit
set_option maxRecDepth 100000
set_option maxHeartbeats 4000000 in
theorem jadd_any (sb n : Nat) (A B : Nat → Int) (a b : Int) (w : World) (S : SumR sb n A B w) (hn : n ≤ 1000) :
    Calls Try.prog 37 #[.pointer (some ⟨sb, 0, none⟩), .int .i64 a, .int .i64 b] w fun e w' => (∃ v, e = .returned v) ∧ SumR sb (n + 2) (ap2 A n a) (ap2 B n b) w' ∧ Below sb w w' := by
  have hl := S.lt
  obtain ⟨va, vb, h, h1, h2, h3⟩ := S.blk
  have b0 := (Below.refl w.heap.size w).alloc (Nat.le_refl _) (.cells #[.int .i64 a, .int .i64 a] 2)
  have A0 := Lib.hid (h1.below b0)
  have B0 := Lib.hid (h2.below b0)
  have H0 := Lib.hid ((b0.block sb hl).trans h)
  have N0 := Lib.hid h3
  have c := cell_two h
  have c0 := c.1
  have c2 := c.2.2.1
  clear c h h1 h2 h3 b0 S
  go_enter Try.func37, Try.ntmps37
  go_upto_region 1 with (refine wpList_app2 rfl (.tmp 10) (.tmp 13) rfl (sb + 1) rfl A0.out w.heap.size 2 a a rfl (by simp [go_sem]) (by simp [go_sem]) (by omega) (by simp; omega) (w.heap.size + 1) (by simp) ?_; intro g1 cp1 w1 hO1 hg1 hat1 hlt1; have G1 := Lib.hid (sum_g0 H0.out A0.out B0.out N0.out hO1 hg1 hat1 (by simp)); have O1 := Lib.hid hO1; clear hO1 hg1 hat1 hlt1; have c3 := (cell_two G1.out.1).2.2.1; have c4 := (cell_two G1.out.1).1)
  obtain ⟨v1, hv1⟩ : ∃ v, Value.slice (some ⟨g1, 0, none⟩) (n + 2) cp1 = v := ⟨_, rfl⟩
  rw [hv1] at G1 O1 ⊢
  clear hv1
  have H2 := Lib.hid (setCell_two0 G1.out.1 v1)
  have b2 : Below (sb + 1) w1 (w1.setCell ⟨sb, 0, none⟩ v1) → True := fun _ => trivial
  clear b2
  have P2 := Lib.hid (O1.out.kept (w' := w1.setCell ⟨sb, 0, none⟩ v1) fun k hk _ _ => heap_setCell_other w1 ⟨sb, 0, none⟩ k v1 (by simp only; omega))
  have Q2 := Lib.hid (G1.out.2.1.kept (w' := w1.setCell ⟨sb, 0, none⟩ v1) fun k hk _ _ => heap_setCell_other w1 ⟨sb, 0, none⟩ k v1 (by simp only; omega))
  have N2 := Lib.hid G1.out.2.2.1
  have B2 := Lib.hid (show Below sb w (w1.setCell ⟨sb, 0, none⟩ v1) from (((Below.refl sb w).alloc (by omega) _).trans (G1.out.2.2.2.mono (by omega))).setCell (Nat.le_refl _) _)
  generalize w1.setCell ⟨sb, 0, none⟩ v1 = w2 at *
  have hl2 := (Array.getElem?_eq_some_iff.1 H2.out).1
  have c5 := (cell_two H2.out).2.1
  have b3 := (Below.refl w2.heap.size w2).alloc (Nat.le_refl _) (.cells #[.int .i64 b, .int .i64 b] 2)
  have A3 := Lib.hid (P2.out.below b3)
  have B3 := Lib.hid (Q2.out.below b3)
  have H3 := Lib.hid ((b3.block sb hl2).trans H2.out)
  have M2 := Lib.hid (fun g (h : vb.ownBlock = some g) (e : v1.ownBlock = some g) => N2.out g e h)
  clear c0 c2 c3 c4 A0 B0 H0 N0 G1 O1 P2 Q2 b3 H2
  go_upto_region 2 with (refine wpList_app2 rfl (.tmp 21) (.tmp 24) rfl (sb + 1) rfl B3.out w2.heap.size 2 b b rfl (by simp [go_sem]) (by simp [go_sem]) (by omega) (by simp; omega) (w2.heap.size + 1) (by simp) ?_; intro g2 cp2 w3 hO3 hg3 hat3 hlt3; have G3 := Lib.hid (sum_g1 H3.out A3.out B3.out N2.out hO3 hg3 hat3 (by simp)); have O3 := Lib.hid hO3; clear hO3 hg3 hat3 hlt3; have c6 := (cell_two G3.out.1).2.2.2; have c7 := (cell_two G3.out.1).2.1)
  obtain ⟨v2, hv2⟩ : ∃ v, Value.slice (some ⟨g2, 0, none⟩) (n + 2) cp2 = v := ⟨_, rfl⟩
  rw [hv2] at G3 O3 ⊢
  clear hv2
  have H4 := Lib.hid (setCell_two1 G3.out.1 v2)
  have P4 := Lib.hid (G3.out.2.1.kept (w' := w3.setCell ⟨sb, 1, none⟩ v2) fun k hk _ _ => heap_setCell_other w3 ⟨sb, 1, none⟩ k v2 (by simp only; omega))
  have Q4 := Lib.hid (O3.out.kept (w' := w3.setCell ⟨sb, 1, none⟩ v2) fun k hk _ _ => heap_setCell_other w3 ⟨sb, 1, none⟩ k v2 (by simp only; omega))
  have N4 := Lib.hid G3.out.2.2.1
  have B4 := Lib.hid (show Below sb w (w3.setCell ⟨sb, 1, none⟩ v2) from ((B2.out.alloc (by have := B2.out.size; omega) _).trans (G3.out.2.2.2.mono (by omega))).setCell (Nat.le_refl _) _)
  go_wp2_with fail
  go_end0
  exact ⟨⟨_, rfl⟩, ⟨_, _, H4.out, P4.out, Q4.out, N4.out⟩, B4.out⟩
end Go.Proofs.Ytanmddenleffaaa
/- A region that draws its order: one of three may come up. -/
namespace Go.Proofs.Ytanmddenleffaaa
open Go.RowKit
set_option maxRecDepth 100000
end Go.Proofs.Ytanmddenleffaaa
/- A region that draws its order, where several operations may come first: the orders that have done the same set of operations are walked once from there ('share'). -/
namespace Go.Proofs.Ytanmddenleffaaa
open Go
/-- What is asked at several places, shown once: T is found at the first of them. -/
inductive Shr (T : Prop) : Prop where
  | mk (out : T) : Shr T
theorem Shr.out {T : Prop} : Shr T → T := fun ⟨h⟩ => h
end Go.Proofs.Ytanmddenleffaaa
/- Roundings: how far from the quotient. No program. -/
namespace Go.Proofs.Ytanmddenleffaaa
def SB (x : Int) : Prop := -1152921504606846976 ≤ x ∧ x ≤ 1152921504606846976
theorem rdiv_err {x d : Int} (hd : 0 < d) : -d ≤ 2 * (d * rdiv x d - x) ∧ 2 * (d * rdiv x d - x) ≤ d := by
  have key : ∀ n k : Nat, 0 < k → -(k : Int) ≤ 2 * ((k : Int) * (((2 * n + k) / (2 * k) : Nat) : Int) - n) ∧ 2 * ((k : Int) * (((2 * n + k) / (2 * k) : Nat) : Int) - n) ≤ k := by
    intro n k hk
    have h1 := Nat.div_add_mod (2 * n + k) (2 * k)
    have h2 := Nat.mod_lt (2 * n + k) (show 0 < 2 * k by omega)
    generalize (2 * n + k) / (2 * k) = q at *
    generalize (2 * n + k) % (2 * k) = r at *
    have h3 : ((2 * k * q + r : Nat) : Int) = ((2 * n + k : Nat) : Int) := by rw [h1]
    rw [Int.natCast_add, Int.natCast_mul, Int.natCast_mul, Int.natCast_add, Int.natCast_mul, Int.mul_assoc] at h3
    generalize (k : Int) * (q : Int) = z at *
    omega
  have hk : (d.natAbs : Int) = d := by omega
  have h := key x.natAbs d.natAbs (by omega)
  rw [hk] at h
  unfold rdiv
  by_cases hx : 0 ≤ x
  · rw [if_pos (by simp [hx, hd])]
    rw [show (x.natAbs : Int) = x by omega] at h
    exact h
  · rw [if_neg (by simp [hx, hd])]
    rw [show (x.natAbs : Int) = -x by omega] at h
    rw [Int.mul_neg]
    generalize d * (((2 * x.natAbs + d.natAbs) / (2 * d.natAbs) : Nat) : Int) = z at *
    omega
end Go.Proofs.Ytanmddenleffaaa
