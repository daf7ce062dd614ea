/- Contracts of the program's functions and plain laws, part 14: they hold for all arguments. -/
import Derived.Test.YtpbgglkopfjagaaQ13
import Derived.Test.YtpbgglkopfjagaaQ05
import Derived.Test.YtpbgglkopfjagaaQ08
/- awake of chapter 18: what holds behind its first number; the second call's contract. -/
namespace Go.Proofs.Ytpbgglkopfjagaa
open Go.RowKit
set_option maxRecDepth 100000
structure AwK (sb pb ob tb : Nat) (SN PN : Nat → Int) (YV VN : Int) (w w' : World) : Prop where
  below : Below w.heap.size w w'
  flg : Flg w' w.heap.size false
  s : Blk w' sb 23 24 awS
  p : Blk w' pb 26 300 awC
  o : Blk w' ob 41 27 awO1
  t : Blk w' tb 23 24 SN
  q : Blk w' (tb + 1) 26 300 PN
  r : Res w' (tb + 1 + 1) true YV VN
  ord : w.heap.size < sb ∧ sb < pb ∧ pb < ob ∧ ob < tb
section
variable {sb pb ob tb : Nat} {SN PN : Nat → Int} {YV VN : Int} {w wr w' : World}
theorem AwK.down (a : AwK sb pb ob tb SN PN YV VN w wr) (u : Below wr.heap.size wr w') : AwK sb pb ob tb SN PN YV VN w w' :=
  ⟨Below.after a.below u, a.flg.below u, a.s.below u, a.p.below u, a.o.below u, a.t.below u, a.q.below u, a.r.below u, a.ord⟩
theorem AwK.alloc (a : AwK sb pb ob tb SN PN YV VN w wr) (o : Obj) : AwK sb pb ob tb SN PN YV VN w (wr.alloc o) := a.down ((Below.refl _ _).alloc (Nat.le_refl _) o)
theorem AwK.drew (a : AwK sb pb ob tb SN PN YV VN w wr) : AwK sb pb ob tb SN PN YV VN w wr.drew := ⟨a.below.drew, a.flg, a.s, a.p, a.o, a.t, a.q, a.r, a.ord⟩
theorem AwK.upd (a : AwK sb pb ob tb SN PN YV VN w wr) (u : Upd ⟨w.heap.size, 0, none⟩ false wr w') : AwK sb pb ob tb SN PN YV VN w w' := by
  have h := a.ord
  exact ⟨own_upd a.below (Nat.le_refl _) u, a.flg.hit u, a.s.upd u (by show sb ≠ w.heap.size; omega), a.p.upd u (by show pb ≠ w.heap.size; omega), a.o.upd u (by show ob ≠ w.heap.size; omega), a.t.upd u (by show tb ≠ w.heap.size; omega), a.q.upd u (by show tb + 1 ≠ w.heap.size; omega), a.r.upd u (by show tb + 1 + 1 ≠ w.heap.size; omega), h⟩
theorem AwK.row (a : AwK sb pb ob tb SN PN YV VN w wr) {b : Nat} (hb : tb + 1 + 1 < b) (cs : Array Value) : AwK sb pb ob tb SN PN YV VN w (wr.setRow b cs) := by
  have h := a.ord
  exact ⟨below_row a.below (by omega) _, a.flg.row _ (by omega), a.s.setRow_other _ (by omega), a.p.setRow_other _ (by omega), a.o.setRow_other _ (by omega), a.t.setRow_other _ (by omega), a.q.setRow_other _ (by omega), a.r.row _ (by omega), h⟩
theorem awk_st (a : AwK sb pb ob tb SN PN YV VN w wr) (b : Nat) (hb : wr.heap.size = b) : Blk (wr.alloc (.cells #[.int .i64 0, .int .i64 0, .int .i64 0, .int .i64 0, .int .i64 0, .int .i64 0, .int .i64 0, .int .i64 0, .int .i64 0, .int .i64 0, .int .i64 0, .int .i64 0, .int .i64 0, .int .i64 0, .int .i64 0, .int .i64 0, .int .i64 0, .int .i64 0, .int .i64 0, .int .i64 0, .int .i64 0, .int .i64 0, .int .i64 0, .int .i64 0] 23)) b 23 24 (fun _ => 0) ∧ tb + 1 + 1 < b := by
  subst hb
  rw [zvec24]; exact ⟨Blk.new wr _ 24 _, a.r.lt⟩
theorem awk_cov (a : AwK sb pb ob tb SN PN YV VN w wr) (b : Nat) (hb : wr.heap.size = b) : Blk (wr.alloc (.cells Try.zeroCells26 26)) b 26 300 (fun _ => 0) ∧ tb + 1 + 1 < b := by
  subst hb
  rw [zcov]; exact ⟨Blk.new wr _ _ _, a.r.lt⟩
theorem awk_slc (_a : AwK sb pb ob tb SN PN YV VN w wr) (x : Int) (b : Nat) (hb : wr.heap.size = b) : Slc (wr.alloc (.cells #[.int .i64 x] 3)) (some ⟨b, 0, none⟩) 1 (fun _ => x) := by
  subst hb
  intro i hi
  obtain rfl : i = 0 := by omega
  exact ⟨_, _, rfl, by simp [go_sem]⟩
theorem awk_obs (_a : AwK sb pb ob tb SN PN YV VN w wr) (f : Nat → Int) (b : Nat) (hb : wr.heap.size = b) : Blk (wr.alloc (.cells (arrv 54 f) 41)) b 41 (27 * 2) f := by
  subst hb
  exact Blk.new wr _ 54 f
end
theorem ownr_a {w w1 : World} {b T n m B : Nat} {f : Nat → Int} {v : Value} {t : Nat → Bool} {y s : Nat → Int} (a : Blk w1 b T n f) (h : OwnR w (w1.heap.size + 1 + 1 + 1 + 1) v m t y s) (_e : B = B) : v.ownBlock ≠ some b := fun e => by
  have h1 := (h.blk e).1
  have h2 := a.lt
  omega
theorem ownr_n {w : World} {m B b : Nat} {v : Value} {t : Nat → Bool} {y s : Nat → Int} (h : OwnR w B v m t y s) (hb : w.heap.size = b) : v.ownBlock ≠ some b := fun e => by
  have h1 := (h.blk e).2
  omega
theorem OwnR.row2 {w : World} {B k : Nat} {v : Value} {n : Nat} {t : Nat → Bool} {y s : Nat → Int} (h : OwnR w B v n t y s) (cs : Array Value) (hk : v.ownBlock ≠ some k) : OwnR (w.setRow k cs) B v n t y s :=
  h.kept fun j _ _ e => Go.setRow_other w k j cs (fun e2 => hk (by rw [← e, e2]))
theorem blk_ne2 {wr : World} {b b' T T' n n' : Nat} {f g : Nat → Int} (h : Blk wr b T n f) (h' : Blk wr b' T' n' g) (hT : T ≠ T') : b ≠ b' := fun e => by
  subst e
  unfold Blk at h h'
  rw [h] at h'
  injection h' with h'
  injection h' with _ h2 _
  exact hT h2
/-- What was told, as a slice that is read. -/
theorem OwnR.told {w : World} {B : Nat} {v : Value} {n : Nat} {t : Nat → Bool} {y s : Nat → Int} (h : OwnR w B v n t y s) : ∃ p cp, v = .slice p n cp ∧ SlcR w p n t y s := by
  rcases h.slc with ⟨rfl, rfl⟩ | ⟨g, cp, rfl, _, _, hc⟩
  · exact ⟨none, 0, rfl, fun k hk => by omega⟩
  · refine ⟨_, cp, rfl, fun k hk => ⟨g, rfl, ?_⟩⟩
    obtain ⟨a, b, c⟩ := rcells_get (t := t) (y := y) (s := s) hk
    exact ⟨hc _ _ a, hc _ _ b, hc _ _ c⟩
theorem awO_two : twoO awO1 awO2 = awO := rfl
theorem awO_rng : ∀ i, -9223372036854775808 ≤ awO i ∧ awO i ≤ 9223372036854775807 := by
  intro i
  have hp : ∀ k j, -9223372036854775808 ≤ pkF k j ∧ pkF k j ≤ 9223372036854775807 := fun k j => by unfold pkF; split <;> decide
  unfold awO awO1 awO2 obF
  split
  · split
    · exact hp _ _
    · split
      · decide
      · split <;> decide
  · split
    · exact hp _ _
    · split
      · decide
      · split <;> decide
theorem awk_all (bc : Nat) (x : World) (k1 : x.cell? ⟨bc, 0, none⟩ = some (.bool false)) (k2 : x.frozen? ⟨bc, 0, none⟩ = false) (lb : Nat) (hb : Blk x lb 41 (27 * 2) awO) :
    Calls Try.prog 6 #[.pointer (some ⟨bc, 0, none⟩), .agg (arrv 24 awS), .agg (arrv 300 awC), .slice (some ⟨lb, 0, none⟩) 2 2] x fun e w' =>
      ∃ v, e = .returned (.tuple #[.agg (arrv 24 (alN awS awC awO 2).1), .agg (arrv 300 (alN awS awC awO 2).2), v]) ∧ Upd ⟨bc, 0, none⟩ false x w' ∧ OwnR w' (x.heap.size + 1 + 1 + 1 + 1) v 2 (alT awS awC awO) (alY awO) (alV awS awC awO) := by
  refine (all_any ⟨bc, 0, none⟩ false awS awC awO lb 2 2 x k1 k2 (by omega) (fun _ => hb) awO_rng (some ⟨lb, 0, none⟩) (fun _ => rfl)).mono ?_
  rintro e w' ⟨v, h1, h2, h3⟩
  rw [aw_all.2.2.2] at h2
  exact ⟨v, h1, h2, h3⟩
theorem SlcR.below {w w' : World} {p : Option Addr} {n : Nat} {t : Nat → Bool} {y s : Nat → Int} (h : SlcR w p n t y s) (b : Below w.heap.size w w') : SlcR w' p n t y s := fun k hk => by
  obtain ⟨g, e, c0, c1, c2⟩ := h k hk
  have hg := World.block_lt_of_cell? _ _ c0
  exact ⟨g, e, (b.cell (p := ⟨g, k * 3, none⟩) hg).trans c0, (b.cell (p := ⟨g, k * 3 + 1, none⟩) hg).trans c1, (b.cell (p := ⟨g, k * 3 + 2, none⟩) hg).trans c2⟩
theorem awk_count (p : Option Addr) (cp : Nat) {t : Nat → Bool} {y s : Nat → Int} {w : World} (hL : SlcR w p 2 t y s) (h0 : t 0 = true) (h1 : t 1 = false) :
    Calls Try.prog 8 #[.slice p 2 cp] w fun e w' => e = .returned (.tuple #[.int .i64 1, .int .i64 1]) ∧ Below w.heap.size w w' := by
  have h := count_any p 2 cp t y s w (by omega) hL
  have e : cntT t 2 = 1 := by simp [cntT, h0, h1]
  rw [e] at h
  exact h
theorem awk_lik : likB 1073741824 17592186044416 1 = true ∧ likB 1073741825 17592186044416 1 = false := by decide
end Go.Proofs.Ytpbgglkopfjagaa
/- The equality of two covariances, as numbers. -/
namespace Go.Proofs.Ytpbgglkopfjagaa
open Go
set_option maxRecDepth 100000
end Go.Proofs.Ytpbgglkopfjagaa
/- '==' of two rows. -/
namespace Go.Proofs.Ytpbgglkopfjagaa
open Go.RowKit
set_option maxRecDepth 100000
open Go in
theorem wpAnyM_threeS {P : Program} {ops : Array Oper} {Q : Exit → Act → World → Prop} {md : Region.Mode} {L : Nat} {S : World → Prop} (i j l : Nat) {oi oj ol : Oper} {fuel : Nat} {listed : Array Bool} {a : Act} {w : World} (hi : ops.toList[i]? = some oi) (hj : ops.toList[j]? = some oj) (hl : ops.toList[l]? = some ol) (hr : Region.ready md ops listed = [i, j, l])
    (h1 : ∀ K : Act → World → Prop, Shut (∀ a w, S w → (S w → wpAnyM P md ops Q S L fuel (listed.setIfInBounds i true) a w) → K a w) →
      if Region.wanted oi (yielded ops a.tmps) = true then Oper.wp P oi a w K Q else K (a.put oi.dst undef) w)
    (h2 : ∀ K : Act → World → Prop, Shut (∀ a w, S w → (S w → wpAnyM P md ops Q S L fuel (listed.setIfInBounds j true) a w) → K a w) →
      if Region.wanted oj (yielded ops a.tmps) = true then Oper.wp P oj a w K Q else K (a.put oj.dst undef) w)
    (h3 : ∀ K : Act → World → Prop, Shut (∀ a w, S w → (S w → wpAnyM P md ops Q S L fuel (listed.setIfInBounds l true) a w) → K a w) →
      if Region.wanted ol (yielded ops a.tmps) = true then Oper.wp P ol a w K Q else K (a.put ol.dst undef) w) :
    wpAnyM P md ops Q S L (fuel + 1) listed a w := by
  have hi' : ops[i]? = some oi := by rwa [Array.getElem?_toList] at hi
  have hj' : ops[j]? = some oj := by rwa [Array.getElem?_toList] at hj
  have hl' : ops[l]? = some ol := by rwa [Array.getElem?_toList] at hl
  refine ⟨fun h0 => (by rw [hr] at h0; cases h0), fun k hk => ?_⟩
  rw [hr] at hk
  have hk' : k = i ∨ k = j ∨ k = l := by simpa using hk
  rcases hk' with rfl | rfl | rfl
  · exact wpOp_step hi' (fun K' hK => h1 K' (fun a w hS hW => hK a w ⟨.inr hS, hW hS⟩))
  · exact wpOp_step hj' (fun K' hK => h2 K' (fun a w hS hW => hK a w ⟨.inr hS, hW hS⟩))
  · exact wpOp_step hl' (fun K' hK => h3 K' (fun a w hS hW => hK a w ⟨.inr hS, hW hS⟩))
open Go in
/-- An operation that changes the world and gives nothing (a store), by its run: the walk's goal is never looked into. -/
theorem wpAnyM_doneS {P : Program} {ops : Array Oper} {Q : Exit → Act → World → Prop} {md : Region.Mode} {L : Nat} {S : World → Prop} (i : Nat) {o : Oper} {fuel : Nat} {listed : Array Bool} {a : Act} {w w' : World} (ho : ops.toList[i]? = some o) (hr : Region.ready md ops listed = [i])
    (hw : Region.wanted o (yielded ops a.tmps) = true) (hy : (execOp a.eval o).run P w = .ok .skip w') (hS : S w') (h : S w' → wpAnyM P md ops Q S L fuel (listed.setIfInBounds i true) (a.put o.dst undef) w') :
    wpAnyM P md ops Q S L (fuel + 1) listed a w :=
  wpAnyM_oneS i ho hr fun K hK => by
    rw [if_pos hw]
    exact wp_of_run hy (hK.out _ _ hS h)
end Go.Proofs.Ytpbgglkopfjagaa
/- A region that draws its order, where several operations may come first: the orders that have done the same set of operations are walked once from there ('share'). -/
namespace Go.Proofs.Ytpbgglkopfjagaa
open Go
/-- What is asked at several places, shown once: T is found at the first of them. -/
inductive Shr (T : Prop) : Prop where
  | mk (out : T) : Shr T
theorem Shr.out {T : Prop} : Shr T → T := fun ⟨h⟩ => h
theorem share {T G : Prop} (h : Shr T → G) (p : T) : G := h ⟨p⟩
end Go.Proofs.Ytpbgglkopfjagaa
