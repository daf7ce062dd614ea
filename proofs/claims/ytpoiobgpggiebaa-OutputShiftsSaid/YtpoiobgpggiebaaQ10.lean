/- Contracts of the program's functions and plain laws, part 10: they hold for all arguments. -/
import Derived.Test.YtpoiobgpggiebaaQ03
import Derived.Test.YtpoiobgpggiebaaQ08
import Derived.Test.YtpoiobgpggiebaaQ06
import Derived.Test.YtpoiobgpggiebaaQ09
/- A region that draws its order: behind its last call another fact about the world may be taken up. -/
namespace Go.Proofs.Ytpoiobgpggiebaa
open Go
theorem getD_keeps {listed : Array Bool} {i L : Nat} (h : listed.getD L false = true) : (listed.setIfInBounds i true).getD L false = true := by
  by_cases hi : i = L
  · subst hi
    rcases Nat.lt_or_ge i listed.size with h' | h'
    · simp [h']
    · simp [Array.getElem?_eq_none h'] at h
  · rw [getD_set_ne' false hi]; exact h
theorem wpAnyM_of_any {P : Program} {md : Region.Mode} {ops : Array Oper} {Q : Exit → Act → World → Prop} {S : World → Prop} {L : Nat} : ∀ (fuel : Nat) (listed : Array Bool) (a : Act) (w : World), listed.getD L false = true → wpAny P md ops Q fuel listed a w → wpAnyM P md ops Q S L fuel listed a w
  | 0, _, _, _, _, h => h
  | fuel + 1, _, _, _, hL, h => ⟨h.1, fun i hi => wpOp_mono (fun a' w' h' => ⟨.inl (getD_keeps hL), wpAnyM_of_any fuel _ a' w' (getD_keeps hL) h'⟩) (h.2 i hi)⟩
theorem wpAnyM_switch {P : Program} {md : Region.Mode} {ops : Array Oper} {Q : Exit → Act → World → Prop} {S : World → Prop} {L : Nat} (S' : World → Prop) (L' : Nat) {fuel : Nat} {listed : Array Bool} {a : Act} {w : World}
    (hL : listed.getD L false = true) (hS : S' w) (h : S' w → wpAnyM P md ops Q S' L' fuel listed a w) : wpAnyM P md ops Q S L fuel listed a w :=
  wpAnyM_of_any fuel listed a w hL (wpAny_of_M fuel listed a w (h hS))
/-- Take number i first: x waits for it, and L for x. -/
theorem wpAnyM_first2 {P : Program} {md : Region.Mode} {ops : Array Oper} {Q : Exit → Act → World → Prop} {S : World → Prop} {L : Nat} {i x : Nat} {oi : Oper} {v : Value} (hi : ops[i]? = some oi) (hsel : ∀ (j : Nat) (o : Oper) cs b, ops[j]? = some o → o.op ≠ .select cs b)
    (hQ : ∀ c a w, Q (.panic c) (a.put oi.dst v) w → Q (.panic c) a w) (hiL : i ≠ L) (hiX : i ≠ x)
    (hX : Region.waitsFor md ops x i = true) (hL : Region.waitsFor md ops L x = true) :
    ∀ (fuel : Nat) (listed : Array Bool) (a : Act) (w : World), listed.getD L false = false → listed.getD x true = false →
      (∀ j oj, ops[j]? = some oj → j ≠ i → listed.getD j true = false → (∀ e ∈ oj.after, Region.binds md e = true → e.on ≠ i) → oi.apart ops oj = true) →
      i ∈ Region.ready md ops listed → YieldsIf P ops S oi v a → S w →
      wpAnyM P md ops Q S L fuel (listed.setIfInBounds i true) (a.put oi.dst v) w → wpAnyM P md ops Q S L (fuel + 1) listed a w := by
  intro fuel
  induction fuel with
  | zero =>
    intro listed a w _ _ _ hr hy hGw H
    refine ⟨fun h => (by rw [h] at hr; cases hr), fun j hj => ?_⟩
    by_cases hji : j = i
    · subst hji; exact hy.wpOp hi hGw ⟨.inr hGw, H⟩
    · have := ready_mono hj hji
      rw [H.1] at this
      cases this
  | succ fuel ih =>
    intro listed a w hLw hXw hfree hr hy hGw H
    refine ⟨fun h => (by rw [h] at hr; cases hr), fun j hj => ?_⟩
    by_cases hji : j = i
    · subst hji; exact hy.wpOp hi hGw ⟨.inr hGw, H⟩
    · have h1 := H.2 j (ready_mono hj hji)
      obtain ⟨hjun, oj, hoj, hall⟩ := mem_ready.1 hj
      have hiun := (mem_ready.1 hr).1
      have hnot : ∀ e ∈ oj.after, Region.binds md e = true → e.on ≠ i := fun e he hb heq => by
        have h2 := hall e he hb
        rw [heq] at h2
        exact getD_of_ready hiun h2
      have hjX : j ≠ x := fun e => by
        subst e
        obtain ⟨oX, hoX, e, he, hb, hon⟩ := Region.waitsFor_spec hX
        have : oX = oj := Option.some.inj (hoX.symm.trans hoj)
        subst this
        exact hnot e he hb hon
      have hjL : j ≠ L := fun e => by
        subst e
        obtain ⟨oL, hoL, e, he, hb, hon⟩ := Region.waitsFor_spec hL
        have : oL = oj := Option.some.inj (hoL.symm.trans hoj)
        subst this
        have h2 := hall e he hb
        rw [hon] at h2
        exact getD_of_ready hXw h2
      have h2 := wpOp_putIf hoj (hfree j oj hoj hji hjun hnot) (fun cs b => hsel i oi cs b hi) (fun cs b => hsel j oj cs b hoj) hQ hy h1
      have hfree' : ∀ k ok, ops[k]? = some ok → k ≠ i → (listed.setIfInBounds j true).getD k true = false →
          (∀ e ∈ ok.after, Region.binds md e = true → e.on ≠ i) → oi.apart ops ok = true := fun k ok hk hki hun hno => by
        refine hfree k ok hk hki ?_ hno
        by_cases hjk : j = k
        · subst hjk; exact hjun
        · rw [getD_set_ne true hjk] at hun; exact hun
      refine wpOp_mono (fun a' w' h3 => ?_) h2
      have hL' : (listed.setIfInBounds j true).getD L false = false := by rw [getD_set_ne' _ hjL]; exact hLw
      have hX' : (listed.setIfInBounds j true).getD x true = false := by rw [getD_set_ne' _ hjX]; exact hXw
      have hS' : S w' := by
        refine h3.2.1.resolve_left fun h => ?_
        rw [Array.setIfInBounds_comm _ _ (Ne.symm hji), getD_set_ne' _ hiL, hL'] at h
        cases h
      refine ⟨.inr hS', ih (listed.setIfInBounds j true) a' w' hL' hX' hfree' (ready_mono hr (Ne.symm hji)) h3.1 hS' ?_⟩
      rw [Array.setIfInBounds_comm _ _ hji]
      exact h3.2.2
theorem wpAnyM_take2 (x : Nat) (i : Nat) {P : Program} {md : Region.Mode} {ops : Array Oper} {Q : Exit → Act → World → Prop} {S : World → Prop} {L : Nat} {oi : Oper} {v : Value} {fuel : Nat} {listed : Array Bool} {a : Act} {w : World} (hi' : ops.toList[i]? = some oi)
    (hk : (Region.noSelect ops && (Region.free md ops listed i && ((Region.ready md ops listed).contains i && (Region.waitsFor md ops x i && (Region.waitsFor md ops L x && (!listed.getD L false && (!listed.getD x true && (!(i == L) && !(i == x))))))))) = true)
    (hQ : ∀ c a w, Q (.panic c) (a.put oi.dst v) w → Q (.panic c) a w) (hy : YieldsIf P ops S oi v a) (hS : S w)
    (h : wpAnyM P md ops Q S L fuel (listed.setIfInBounds i true) (a.put oi.dst v) w) : wpAnyM P md ops Q S L (fuel + 1) listed a w := by
  have hi : ops[i]? = some oi := by rwa [Array.getElem?_toList] at hi'
  simp only [Bool.and_eq_true, Bool.not_eq_true'] at hk
  obtain ⟨k1, k2, k3, k4, k5, k6, k7, k8, k9⟩ := hk
  exact wpAnyM_first2 hi (Region.noSelect_spec k1) hQ (by simpa using k8) (by simpa using k9) k4 k5 fuel listed a w k6 k7 (Region.free_spec hi k2) (by simpa using k3) hy hS h
/-- Take number i first: those of X wait for it or for one of X, and L is of X. -/
theorem wpAnyM_firstX {P : Program} {md : Region.Mode} {ops : Array Oper} {Q : Exit → Act → World → Prop} {S : World → Prop} {L : Nat} {i : Nat} (X : List Nat) {oi : Oper} {v : Value} (hi : ops[i]? = some oi) (hsel : ∀ (j : Nat) (o : Oper) cs b, ops[j]? = some o → o.op ≠ .select cs b)
    (hQ : ∀ c a w, Q (.panic c) (a.put oi.dst v) w → Q (.panic c) a w) (hiX : i ∉ X) (hLX : L ∈ X)
    (hX : ∀ x, x ∈ X → Region.waitsFor md ops x i = true ∨ ∃ z, z ∈ X ∧ Region.waitsFor md ops x z = true) :
    ∀ (fuel : Nat) (listed : Array Bool) (a : Act) (w : World), (∀ x, x ∈ X → listed.getD x true = false) →
      (∀ j oj, ops[j]? = some oj → j ≠ i → listed.getD j true = false → (∀ e ∈ oj.after, Region.binds md e = true → e.on ≠ i) → oi.apart ops oj = true) →
      i ∈ Region.ready md ops listed → YieldsIf P ops S oi v a → S w →
      wpAnyM P md ops Q S L fuel (listed.setIfInBounds i true) (a.put oi.dst v) w → wpAnyM P md ops Q S L (fuel + 1) listed a w := by
  have hiL : i ≠ L := fun e => hiX (e ▸ hLX)
  intro fuel
  induction fuel with
  | zero =>
    intro listed a w _ _ hr hy hGw H
    refine ⟨fun h => (by rw [h] at hr; cases hr), fun j hj => ?_⟩
    by_cases hji : j = i
    · subst hji; exact hy.wpOp hi hGw ⟨.inr hGw, H⟩
    · have := ready_mono hj hji
      rw [H.1] at this
      cases this
  | succ fuel ih =>
    intro listed a w hXw hfree hr hy hGw H
    refine ⟨fun h => (by rw [h] at hr; cases hr), fun j hj => ?_⟩
    by_cases hji : j = i
    · subst hji; exact hy.wpOp hi hGw ⟨.inr hGw, H⟩
    · have h1 := H.2 j (ready_mono hj hji)
      obtain ⟨hjun, oj, hoj, hall⟩ := mem_ready.1 hj
      have hiun := (mem_ready.1 hr).1
      have hnot : ∀ e ∈ oj.after, Region.binds md e = true → e.on ≠ i := fun e he hb heq => by
        have h2 := hall e he hb
        rw [heq] at h2
        exact getD_of_ready hiun h2
      have hjX : j ∉ X := fun hjx => by
        rcases hX j hjx with h | ⟨z, hz, h⟩
        · obtain ⟨oX, hoX, e, he, hb, hon⟩ := Region.waitsFor_spec h
          have : oX = oj := Option.some.inj (hoX.symm.trans hoj)
          subst this
          exact hnot e he hb hon
        · obtain ⟨oX, hoX, e, he, hb, hon⟩ := Region.waitsFor_spec h
          have : oX = oj := Option.some.inj (hoX.symm.trans hoj)
          subst this
          have h2 := hall e he hb
          rw [hon] at h2
          exact getD_of_ready (hXw z hz) h2
      have hjL : j ≠ L := fun e => hjX (e ▸ hLX)
      have h2 := wpOp_putIf hoj (hfree j oj hoj hji hjun hnot) (fun cs b => hsel i oi cs b hi) (fun cs b => hsel j oj cs b hoj) hQ hy h1
      have hfree' : ∀ k ok, ops[k]? = some ok → k ≠ i → (listed.setIfInBounds j true).getD k true = false →
          (∀ e ∈ ok.after, Region.binds md e = true → e.on ≠ i) → oi.apart ops ok = true := fun k ok hk hki hun hno => by
        refine hfree k ok hk hki ?_ hno
        by_cases hjk : j = k
        · subst hjk; exact hjun
        · rw [getD_set_ne true hjk] at hun; exact hun
      refine wpOp_mono (fun a' w' h3 => ?_) h2
      have hX' : ∀ x, x ∈ X → (listed.setIfInBounds j true).getD x true = false := fun x hx => by
        have hne : j ≠ x := fun e => by rw [e] at hjX; exact hjX hx
        rw [getD_set_ne' true hne]; exact hXw x hx
      have hS' : S w' := by
        refine h3.2.1.resolve_left fun h => ?_
        rw [Array.setIfInBounds_comm _ _ (Ne.symm hji), getD_set_ne' _ hiL] at h
        exact getD_of_ready (hX' L hLX) h
      refine ⟨.inr hS', ih (listed.setIfInBounds j true) a' w' hX' hfree' (ready_mono hr (Ne.symm hji)) h3.1 hS' ?_⟩
      rw [Array.setIfInBounds_comm _ _ hji]
      exact h3.2.2
theorem wpAnyM_takeX (X : List Nat) (i : Nat) {P : Program} {md : Region.Mode} {ops : Array Oper} {Q : Exit → Act → World → Prop} {S : World → Prop} {L : Nat} {oi : Oper} {v : Value} {fuel : Nat} {listed : Array Bool} {a : Act} {w : World} (hi' : ops.toList[i]? = some oi)
    (hk : (Region.noSelect ops && (Region.free md ops listed i && ((Region.ready md ops listed).contains i && (!X.contains i && (X.contains L && (X.all (fun x => (Region.waitsFor md ops x i || X.any fun z => Region.waitsFor md ops x z)) && X.all fun x => !listed.getD x true)))))) = true)
    (hQ : ∀ c a w, Q (.panic c) (a.put oi.dst v) w → Q (.panic c) a w) (hy : YieldsIf P ops S oi v a) (hS : S w)
    (h : wpAnyM P md ops Q S L fuel (listed.setIfInBounds i true) (a.put oi.dst v) w) : wpAnyM P md ops Q S L (fuel + 1) listed a w := by
  have hi : ops[i]? = some oi := by rwa [Array.getElem?_toList] at hi'
  simp only [Bool.and_eq_true, Bool.not_eq_true'] at hk
  obtain ⟨k1, k2, k3, k4, k5, k6, k7⟩ := hk
  refine wpAnyM_firstX X hi (Region.noSelect_spec k1) hQ (by simpa using k4) (by simpa using k5) (fun x hx => ?_) fuel listed a w (fun x hx => ?_) (Region.free_spec hi k2) (by simpa using k3) hy hS h
  · have := (List.all_eq_true.1 k6) x hx
    rw [Bool.or_eq_true] at this
    refine this.imp id fun h => ?_
    obtain ⟨z, hz, hz2⟩ := List.any_eq_true.1 h
    exact ⟨z, hz, hz2⟩
  · have := (List.all_eq_true.1 k7) x hx
    simpa using this
end Go.Proofs.Ytpoiobgpggiebaa
/- Contracts of package vec: Sat, Sub, Scale, Norm. -/
namespace Go.Proofs.Ytpoiobgpggiebaa
open Go.RowKit
set_option maxRecDepth 100000
def vc3 (a b c : Int) : Nat → Int := fun i => if i = 0 then a else if i = 1 then b else c
theorem vc3_eq (F : Nat → Int) : arrv 3 (vc3 (F 0) (F 1) (F 2)) = arrv 3 F := arrv_congr fun i hi => by
  obtain rfl | rfl | rfl : i = 0 ∨ i = 1 ∨ i = 2 := by omega
  all_goals rfl
open Go in
theorem run_build_v3 {o : Oper} {ev : Operand → Value} {w : World} (x y z : Operand) (ho : o.op = .build 43 #[(0, x), (1, y), (2, z)]) {a b c : Int} (hx : ev x = .int .i64 a) (hy : ev y = .int .i64 b) (hw : ev z = .int .i64 c) :
    (execOp ev o).run Try.prog w = .ok (.value (.agg (arrv 3 (vc3 a b c)))) w := by
  unfold execOp
  simp only [ho, List.map_toArray, List.map_cons, List.map_nil, hx, hy, hw]
  kernel_rfl
theorem sat_upd (c : Addr) (h : Bool) (a : Int) (w : World) (hc : w.cell? c = some (.bool h)) (hf : w.frozen? c = false) :
    Calls Try.prog 44 #[.pointer (some c), .int .i64 a] w fun e w' => e = .returned (.int .i64 (satV a)) ∧ Upd c (h || satH a) w w' := by
  refine (sat_any c h a w hc hf).mono ?_
  rintro e w' ⟨rfl, rfl⟩
  exact ⟨rfl, Upd.set _ _ _⟩
theorem sub_upd (c : Addr) (h : Bool) (a b : Int) (w : World) (hc : w.cell? c = some (.bool h)) (hf : w.frozen? c = false) :
    Calls Try.prog 48 #[.pointer (some c), .int .i64 a, .int .i64 b] w fun e w' => e = .returned (.int .i64 (subV a b)) ∧ Upd c (h || subH a b) w w' := by
  refine (sub_any c h a b w hc hf).mono ?_
  rintro e w' ⟨rfl, rfl⟩
  refine ⟨rfl, ?_⟩
  rw [show (h || subH a b) = (h || satH a || satH b || satH (satV a - satV b)) by unfold subH; simp [Bool.or_assoc]]
  exact Upd.set _ _ _
structure Vvsat (c : Addr) (h : Bool) (A : Nat → Int) (w wr : World) : Prop where
  upd : Upd c h w wr
  a : Blk wr w.heap.size 43 3 A
  r : Blk wr (w.heap.size + 1) 43 3 (fun _ => 0)
theorem Vvsat.upd' {c : Addr} {h h' : Bool} {A : Nat → Int} {w wr w' : World} (s : Vvsat c h A w wr) (hc : c.block < w.heap.size) (u : Upd c h' wr w') : Vvsat c h' A w w' := ⟨s.upd.trans u, s.a.upd u (by omega), s.r.upd u (by omega)⟩
theorem Vvsat.drew {c : Addr} {h : Bool} {A : Nat → Int} {w wr : World} (s : Vvsat c h A w wr) : Vvsat c h A w wr.drew := ⟨s.upd.drew, s.a.drew, s.r.drew⟩
set_option maxHeartbeats 4000000 in
theorem vsat_any (c : Addr) (h : Bool) (A : Nat → Int) (w : World) (hc : w.cell? c = some (.bool h)) (hf : w.frozen? c = false) :
    Calls Try.prog 78 #[.pointer (some c), .agg (arrv 3 A)] w fun e w' => e = .returned (.agg (arrv 3 (fun i => satV (A i)))) ∧ Upd c (h || orB (fun i => satH (A i)) 3) w w' := by
  have hcb := World.block_lt_of_cell? w c hc
  have S0 := Lib.hid (show Vvsat c h A w ((w.alloc (.cells (arrv 3 A) 43)).alloc (.cells #[.int .i64 0, .int .i64 0, .int .i64 0] 43)) from ⟨Upd.then (Upd.refl hc) (by (repeat (first | with_reducible exact Below.refl _ _ | with_reducible apply Below.drew | (with_reducible refine below_drewN ?_ _) | (with_reducible refine Below.alloc ?_ (by (try simp) <;> omega) _) | (with_reducible refine Below.setCell ?_ (by (try simp) <;> omega) _)))), (Blk.new w _ 3 A).alloc _, by rw [zv3]; exact Blk.new1 w _ _ 3 _⟩)
  have HC := Lib.hid hc
  have HF := Lib.hid hf
  clear hc hf
  go_enter Try.func78, Try.ntmps78
  go_upto_region 1 with fail
  generalize (w.alloc (.cells (arrv 3 A) 43)).alloc (.cells #[.int .i64 0, .int .i64 0, .int .i64 0] 43) = W0 at *
  have HS := Lib.hid S0.out.drew
  clear S0
  obtain ⟨x0, hx0⟩ : ∃ x, A 0 = x := ⟨_, rfl⟩
  obtain ⟨x1, hx1⟩ : ∃ x, A 1 = x := ⟨_, rfl⟩
  obtain ⟨x2, hx2⟩ : ∃ x, A 2 = x := ⟨_, rfl⟩
  have HX := Lib.hid (And.intro hx0 (And.intro hx1 hx2))
  clear hx0 hx1 hx2
  refine wp_region_M (fun w' => Blk w' w.heap.size 43 3 A) 13 (by kernel_rfl) ?_ (fun hHeld => ?_)
  · exact HS.out.a
  refine wpAnyM_take 0 (v := ?_) rfl (by kernel_rfl) (fun _ _ _ h => h) (Or.inl ⟨by rfl, ?_⟩) (by assumption) ?_
  rotate_left
  · (intro wx hSw; (try dsimp only at hSw); go_simp; (try with_reducible rfl))
  (try simp only [Act.put, nA, nB, nC])
  refine wpAnyM_take 1 (v := ?_) rfl (by kernel_rfl) (fun _ _ _ h => h) (Or.inl ⟨by rfl, ?_⟩) (by assumption) ?_
  rotate_left
  · (intro wx hSw; (try dsimp only at hSw); go_simp; (try with_reducible rfl))
  (try simp only [Act.put, nA, nB, nC])
  refine wpAnyM_take 2 (v := ?_) rfl (by kernel_rfl) (fun _ _ _ h => h) (Or.inl ⟨by rfl, ?_⟩) (by assumption) ?_
  rotate_left
  · (intro wx hSw; have h0 := hSw.cell (i := 0) (by decide); rw [HX.out.1] at h0; go_simp; (try with_reducible rfl))
  (try simp only [Act.put, nA, nB, nC])
  refine wpAnyM_take 4 (v := ?_) rfl (by kernel_rfl) (fun _ _ _ h => h) (Or.inl ⟨by rfl, ?_⟩) (by assumption) ?_
  rotate_left
  · (intro wx hSw; (try dsimp only at hSw); go_simp; (try with_reducible rfl))
  (try simp only [Act.put, nA, nB, nC])
  refine wpAnyM_take 5 (v := ?_) rfl (by kernel_rfl) (fun _ _ _ h => h) (Or.inl ⟨by rfl, ?_⟩) (by assumption) ?_
  rotate_left
  · (intro wx hSw; (try dsimp only at hSw); go_simp; (try with_reducible rfl))
  (try simp only [Act.put, nA, nB, nC])
  refine wpAnyM_take 6 (v := ?_) rfl (by kernel_rfl) (fun _ _ _ h => h) (Or.inl ⟨by rfl, ?_⟩) (by assumption) ?_
  rotate_left
  · (intro wx hSw; have h0 := hSw.cell (i := 1) (by decide); rw [HX.out.2.1] at h0; go_simp; (try with_reducible rfl))
  (try simp only [Act.put, nA, nB, nC])
  refine wpAnyM_take 8 (v := ?_) rfl (by kernel_rfl) (fun _ _ _ h => h) (Or.inl ⟨by rfl, ?_⟩) (by assumption) ?_
  rotate_left
  · (intro wx hSw; (try dsimp only at hSw); go_simp; (try with_reducible rfl))
  (try simp only [Act.put, nA, nB, nC])
  refine wpAnyM_take 9 (v := ?_) rfl (by kernel_rfl) (fun _ _ _ h => h) (Or.inl ⟨by rfl, ?_⟩) (by assumption) ?_
  rotate_left
  · (intro wx hSw; (try dsimp only at hSw); go_simp; (try with_reducible rfl))
  (try simp only [Act.put, nA, nB, nC])
  refine wpAnyM_take 10 (v := ?_) rfl (by kernel_rfl) (fun _ _ _ h => h) (Or.inl ⟨by rfl, ?_⟩) (by assumption) ?_
  rotate_left
  · (intro wx hSw; have h0 := hSw.cell (i := 2) (by decide); rw [HX.out.2.2] at h0; go_simp; (try with_reducible rfl))
  (try simp only [Act.put, nA, nB, nC])
  refine wpAnyM_oneS 3 rfl (by kernel_rfl) (fun K hK => ?_)
  go_simp
  (refine (sat_upd c _ x0 _ (HS.out.upd.cellc HC.out) ((HS.out.upd.frozen hcb).trans HF.out)).mono ?_); rintro e w1 ⟨rfl, hu⟩; have HS2 := Lib.hid (HS.out.upd' hcb hu); clear HS hu; have HS := HS2; clear HS2
  (try dsimp only)
  (try simp only [Act.put, nA, nB, nC])
  clear hHeld
  refine hK.out _ _ ?_ (fun hHeld => ?_)
  · exact HS.out.a
  clear hK K
  (try simp only [Act.put, nA, nB, nC])
  refine wpAnyM_oneS 7 rfl (by kernel_rfl) (fun K hK => ?_)
  go_simp
  (refine (sat_upd c _ x1 _ (HS.out.upd.cellc HC.out) ((HS.out.upd.frozen hcb).trans HF.out)).mono ?_); rintro e w2 ⟨rfl, hu⟩; have HS2 := Lib.hid (HS.out.upd' hcb hu); clear HS hu; have HS := HS2; clear HS2
  (try dsimp only)
  (try simp only [Act.put, nA, nB, nC])
  clear hHeld
  refine hK.out _ _ ?_ (fun hHeld => ?_)
  · exact HS.out.a
  clear hK K
  (try simp only [Act.put, nA, nB, nC])
  refine wpAnyM_oneS 11 rfl (by kernel_rfl) (fun K hK => ?_)
  go_simp
  (refine (sat_upd c _ x2 _ (HS.out.upd.cellc HC.out) ((HS.out.upd.frozen hcb).trans HF.out)).mono ?_); rintro e w3 ⟨rfl, hu⟩; have HS2 := Lib.hid (HS.out.upd' hcb hu); clear HS hu; have HS := HS2; clear HS2
  (try dsimp only)
  (try simp only [Act.put, nA, nB, nC])
  clear hHeld
  refine hK.out _ _ ?_ (fun hHeld => ?_)
  · exact HS.out.a
  clear hK K
  (try simp only [Act.put, nA, nB, nC])
  refine wpAnyM_take 12 (v := ?_) rfl (by kernel_rfl) (fun _ _ _ h => h) (Or.inl ⟨by rfl, ?_⟩) (by assumption) ?_
  rotate_left
  · (intro wx hSw; refine Eq.trans (run_build_v3 (.tmp 8) (.tmp 12) (.tmp 16) (by rfl) (by rfl) (by rfl) (by rfl)) ?_; with_reducible rfl)
  (try simp only [Act.put, nA, nB, nC])
  refine wpAnyM_one 13 rfl (by kernel_rfl) (fun K hK => ?_)
  go_simp; rw [if_pos (arrv_size _ _), run_storeCells_row _ HS.out.r]; go_simp
  refine hK.out _ _ (.inl (by kernel_rfl)) (fun _ => ?_)
  clear hK K
  (try simp only [Act.put, nA, nB, nC])
  refine wpAnyM_done (by kernel_rfl) ?_ _
  have r1 := HS.out.r.setRow (vc3 (satV (x0)) (satV (x1)) (satV (x2)))
  have B1 : Upd c (h || satH (x0) || satH (x1) || satH (x2)) w (w3.setRow (w.heap.size + 1) (arrv 3 (vc3 (satV (x0)) (satV (x1)) (satV (x2))))) := HS.out.upd.then' (below_row (Below.refl _ _) (by omega) _)
  generalize w3.setRow (w.heap.size + 1) (arrv 3 (vc3 (satV (x0)) (satV (x1)) (satV (x2)))) = W2 at *
  go_wp2_with fail
  refine bodyPost_ret (results_cell_row Try.results78 _ _ (w.heap.size + 1) 43 (arrv 3 (vc3 (satV (x0)) (satV (x1)) (satV (x2)))) (0, 0) _ rfl r1 Try.underlying43 rfl (iv3.trans (by rw [arrv_size]))) rfl ⟨?_, ?_⟩
  · rw [← HX.out.1, ← HX.out.2.1, ← HX.out.2.2, vc3_eq (fun i => satV (A i))]
  · rw [show (h || orB (fun i => satH (A i)) 3) = (h || satH (x0) || satH (x1) || satH (x2)) by rw [← HX.out.1, ← HX.out.2.1, ← HX.out.2.2]; simp [orB, Bool.or_assoc]]; exact B1
structure Vvsub (c : Addr) (h : Bool) (A B : Nat → Int) (w wr : World) : Prop where
  upd : Upd c h w wr
  a : Blk wr w.heap.size 43 3 A
  b : Blk wr (w.heap.size + 1) 43 3 B
  r : Blk wr (w.heap.size + 1 + 1) 43 3 (fun _ => 0)
theorem Vvsub.upd' {c : Addr} {h h' : Bool} {A B : Nat → Int} {w wr w' : World} (s : Vvsub c h A B w wr) (hc : c.block < w.heap.size) (u : Upd c h' wr w') : Vvsub c h' A B w w' := ⟨s.upd.trans u, s.a.upd u (by omega), s.b.upd u (by omega), s.r.upd u (by omega)⟩
theorem Vvsub.drew {c : Addr} {h : Bool} {A B : Nat → Int} {w wr : World} (s : Vvsub c h A B w wr) : Vvsub c h A B w wr.drew := ⟨s.upd.drew, s.a.drew, s.b.drew, s.r.drew⟩
set_option maxHeartbeats 4000000 in
theorem vsub_any (c : Addr) (h : Bool) (A B : Nat → Int) (w : World) (hc : w.cell? c = some (.bool h)) (hf : w.frozen? c = false) :
    Calls Try.prog 28 #[.pointer (some c), .agg (arrv 3 A), .agg (arrv 3 B)] w fun e w' => e = .returned (.agg (arrv 3 (fun i => subV (A i) (B i)))) ∧ Upd c (h || orB (fun i => subH (A i) (B i)) 3) w w' := by
  have hcb := World.block_lt_of_cell? w c hc
  have S0 := Lib.hid (show Vvsub c h A B w (((w.alloc (.cells (arrv 3 A) 43)).alloc (.cells (arrv 3 B) 43)).alloc (.cells #[.int .i64 0, .int .i64 0, .int .i64 0] 43)) from ⟨Upd.then (Upd.refl hc) (by (repeat (first | with_reducible exact Below.refl _ _ | with_reducible apply Below.drew | (with_reducible refine below_drewN ?_ _) | (with_reducible refine Below.alloc ?_ (by (try simp) <;> omega) _) | (with_reducible refine Below.setCell ?_ (by (try simp) <;> omega) _)))), ((Blk.new w _ 3 A).alloc _).alloc _, (Blk.new1 w _ _ 3 B).alloc _, by rw [zv3]; exact blk_new2 w _ _ _ 3 _⟩)
  have HC := Lib.hid hc
  have HF := Lib.hid hf
  clear hc hf
  go_enter Try.func28, Try.ntmps28
  go_upto_region 1 with fail
  generalize ((w.alloc (.cells (arrv 3 A) 43)).alloc (.cells (arrv 3 B) 43)).alloc (.cells #[.int .i64 0, .int .i64 0, .int .i64 0] 43) = W0 at *
  have HS := Lib.hid S0.out.drew
  clear S0
  obtain ⟨x0, hx0⟩ : ∃ x, A 0 = x := ⟨_, rfl⟩
  obtain ⟨y0, hy0⟩ : ∃ x, B 0 = x := ⟨_, rfl⟩
  obtain ⟨x1, hx1⟩ : ∃ x, A 1 = x := ⟨_, rfl⟩
  obtain ⟨y1, hy1⟩ : ∃ x, B 1 = x := ⟨_, rfl⟩
  obtain ⟨x2, hx2⟩ : ∃ x, A 2 = x := ⟨_, rfl⟩
  obtain ⟨y2, hy2⟩ : ∃ x, B 2 = x := ⟨_, rfl⟩
  have HX := Lib.hid (And.intro (And.intro hx0 (And.intro hx1 hx2)) (And.intro hy0 (And.intro hy1 hy2)))
  clear hx0 hx1 hx2 hy0 hy1 hy2
  refine wp_region_M (fun w' => Blk w' w.heap.size 43 3 A ∧ Blk w' (w.heap.size + 1) 43 3 B) 19 (by kernel_rfl) ?_ (fun hHeld => ?_)
  · exact ⟨HS.out.a, HS.out.b⟩
  refine wpAnyM_take 0 (v := ?_) rfl (by kernel_rfl) (fun _ _ _ h => h) (Or.inl ⟨by rfl, ?_⟩) (by assumption) ?_
  rotate_left
  · (intro wx hSw; (try dsimp only at hSw); go_simp; (try with_reducible rfl))
  (try simp only [Act.put, nA, nB, nC])
  refine wpAnyM_take 1 (v := ?_) rfl (by kernel_rfl) (fun _ _ _ h => h) (Or.inl ⟨by rfl, ?_⟩) (by assumption) ?_
  rotate_left
  · (intro wx hSw; (try dsimp only at hSw); go_simp; (try with_reducible rfl))
  (try simp only [Act.put, nA, nB, nC])
  refine wpAnyM_take 2 (v := ?_) rfl (by kernel_rfl) (fun _ _ _ h => h) (Or.inl ⟨by rfl, ?_⟩) (by assumption) ?_
  rotate_left
  · (intro wx hSw; have h0 := hSw.1.cell (i := 0) (by decide); rw [HX.out.1.1] at h0; go_simp; (try with_reducible rfl))
  (try simp only [Act.put, nA, nB, nC])
  refine wpAnyM_take 3 (v := ?_) rfl (by kernel_rfl) (fun _ _ _ h => h) (Or.inl ⟨by rfl, ?_⟩) (by assumption) ?_
  rotate_left
  · (intro wx hSw; (try dsimp only at hSw); go_simp; (try with_reducible rfl))
  (try simp only [Act.put, nA, nB, nC])
  refine wpAnyM_take 4 (v := ?_) rfl (by kernel_rfl) (fun _ _ _ h => h) (Or.inl ⟨by rfl, ?_⟩) (by assumption) ?_
  rotate_left
  · (intro wx hSw; have h0 := hSw.2.cell (i := 0) (by decide); rw [HX.out.2.1] at h0; go_simp; (try with_reducible rfl))
  (try simp only [Act.put, nA, nB, nC])
  refine wpAnyM_take 6 (v := ?_) rfl (by kernel_rfl) (fun _ _ _ h => h) (Or.inl ⟨by rfl, ?_⟩) (by assumption) ?_
  rotate_left
  · (intro wx hSw; (try dsimp only at hSw); go_simp; (try with_reducible rfl))
  (try simp only [Act.put, nA, nB, nC])
  refine wpAnyM_take 7 (v := ?_) rfl (by kernel_rfl) (fun _ _ _ h => h) (Or.inl ⟨by rfl, ?_⟩) (by assumption) ?_
  rotate_left
  · (intro wx hSw; (try dsimp only at hSw); go_simp; (try with_reducible rfl))
  (try simp only [Act.put, nA, nB, nC])
  refine wpAnyM_take 8 (v := ?_) rfl (by kernel_rfl) (fun _ _ _ h => h) (Or.inl ⟨by rfl, ?_⟩) (by assumption) ?_
  rotate_left
  · (intro wx hSw; have h0 := hSw.1.cell (i := 1) (by decide); rw [HX.out.1.2.1] at h0; go_simp; (try with_reducible rfl))
  (try simp only [Act.put, nA, nB, nC])
  refine wpAnyM_take 9 (v := ?_) rfl (by kernel_rfl) (fun _ _ _ h => h) (Or.inl ⟨by rfl, ?_⟩) (by assumption) ?_
  rotate_left
  · (intro wx hSw; (try dsimp only at hSw); go_simp; (try with_reducible rfl))
  (try simp only [Act.put, nA, nB, nC])
  refine wpAnyM_take 10 (v := ?_) rfl (by kernel_rfl) (fun _ _ _ h => h) (Or.inl ⟨by rfl, ?_⟩) (by assumption) ?_
  rotate_left
  · (intro wx hSw; have h0 := hSw.2.cell (i := 1) (by decide); rw [HX.out.2.2.1] at h0; go_simp; (try with_reducible rfl))
  (try simp only [Act.put, nA, nB, nC])
  refine wpAnyM_take 12 (v := ?_) rfl (by kernel_rfl) (fun _ _ _ h => h) (Or.inl ⟨by rfl, ?_⟩) (by assumption) ?_
  rotate_left
  · (intro wx hSw; (try dsimp only at hSw); go_simp; (try with_reducible rfl))
  (try simp only [Act.put, nA, nB, nC])
  refine wpAnyM_take 13 (v := ?_) rfl (by kernel_rfl) (fun _ _ _ h => h) (Or.inl ⟨by rfl, ?_⟩) (by assumption) ?_
  rotate_left
  · (intro wx hSw; (try dsimp only at hSw); go_simp; (try with_reducible rfl))
  (try simp only [Act.put, nA, nB, nC])
  refine wpAnyM_take 14 (v := ?_) rfl (by kernel_rfl) (fun _ _ _ h => h) (Or.inl ⟨by rfl, ?_⟩) (by assumption) ?_
  rotate_left
  · (intro wx hSw; have h0 := hSw.1.cell (i := 2) (by decide); rw [HX.out.1.2.2] at h0; go_simp; (try with_reducible rfl))
  (try simp only [Act.put, nA, nB, nC])
  refine wpAnyM_take 15 (v := ?_) rfl (by kernel_rfl) (fun _ _ _ h => h) (Or.inl ⟨by rfl, ?_⟩) (by assumption) ?_
  rotate_left
  · (intro wx hSw; (try dsimp only at hSw); go_simp; (try with_reducible rfl))
  (try simp only [Act.put, nA, nB, nC])
  refine wpAnyM_take 16 (v := ?_) rfl (by kernel_rfl) (fun _ _ _ h => h) (Or.inl ⟨by rfl, ?_⟩) (by assumption) ?_
  rotate_left
  · (intro wx hSw; have h0 := hSw.2.cell (i := 2) (by decide); rw [HX.out.2.2.2] at h0; go_simp; (try with_reducible rfl))
  (try simp only [Act.put, nA, nB, nC])
  refine wpAnyM_oneS 5 rfl (by kernel_rfl) (fun K hK => ?_)
  go_simp
  (refine (sub_upd c _ x0 y0 _ (HS.out.upd.cellc HC.out) ((HS.out.upd.frozen hcb).trans HF.out)).mono ?_); rintro e w1 ⟨rfl, hu⟩; have HS2 := Lib.hid (HS.out.upd' hcb hu); clear HS hu; have HS := HS2; clear HS2
  (try dsimp only)
  (try simp only [Act.put, nA, nB, nC])
  clear hHeld
  refine hK.out _ _ ?_ (fun hHeld => ?_)
  · exact ⟨HS.out.a, HS.out.b⟩
  clear hK K
  (try simp only [Act.put, nA, nB, nC])
  refine wpAnyM_oneS 11 rfl (by kernel_rfl) (fun K hK => ?_)
  go_simp
  (refine (sub_upd c _ x1 y1 _ (HS.out.upd.cellc HC.out) ((HS.out.upd.frozen hcb).trans HF.out)).mono ?_); rintro e w2 ⟨rfl, hu⟩; have HS2 := Lib.hid (HS.out.upd' hcb hu); clear HS hu; have HS := HS2; clear HS2
  (try dsimp only)
  (try simp only [Act.put, nA, nB, nC])
  clear hHeld
  refine hK.out _ _ ?_ (fun hHeld => ?_)
  · exact ⟨HS.out.a, HS.out.b⟩
  clear hK K
  (try simp only [Act.put, nA, nB, nC])
  refine wpAnyM_oneS 17 rfl (by kernel_rfl) (fun K hK => ?_)
  go_simp
  (refine (sub_upd c _ x2 y2 _ (HS.out.upd.cellc HC.out) ((HS.out.upd.frozen hcb).trans HF.out)).mono ?_); rintro e w3 ⟨rfl, hu⟩; have HS2 := Lib.hid (HS.out.upd' hcb hu); clear HS hu; have HS := HS2; clear HS2
  (try dsimp only)
  (try simp only [Act.put, nA, nB, nC])
  clear hHeld
  refine hK.out _ _ ?_ (fun hHeld => ?_)
  · exact ⟨HS.out.a, HS.out.b⟩
  clear hK K
  (try simp only [Act.put, nA, nB, nC])
  refine wpAnyM_take 18 (v := ?_) rfl (by kernel_rfl) (fun _ _ _ h => h) (Or.inl ⟨by rfl, ?_⟩) (by assumption) ?_
  rotate_left
  · (intro wx hSw; refine Eq.trans (run_build_v3 (.tmp 12) (.tmp 18) (.tmp 24) (by rfl) (by rfl) (by rfl) (by rfl)) ?_; with_reducible rfl)
  (try simp only [Act.put, nA, nB, nC])
  refine wpAnyM_one 19 rfl (by kernel_rfl) (fun K hK => ?_)
  go_simp; rw [if_pos (arrv_size _ _), run_storeCells_row _ HS.out.r]; go_simp
  refine hK.out _ _ (.inl (by kernel_rfl)) (fun _ => ?_)
  clear hK K
  (try simp only [Act.put, nA, nB, nC])
  refine wpAnyM_done (by kernel_rfl) ?_ _
  have r1 := HS.out.r.setRow (vc3 (subV (x0) (y0)) (subV (x1) (y1)) (subV (x2) (y2)))
  have B1 : Upd c (h || subH (x0) (y0) || subH (x1) (y1) || subH (x2) (y2)) w (w3.setRow (w.heap.size + 1 + 1) (arrv 3 (vc3 (subV (x0) (y0)) (subV (x1) (y1)) (subV (x2) (y2))))) := HS.out.upd.then' (below_row (Below.refl _ _) (by omega) _)
  generalize w3.setRow (w.heap.size + 1 + 1) (arrv 3 (vc3 (subV (x0) (y0)) (subV (x1) (y1)) (subV (x2) (y2)))) = W2 at *
  go_wp2_with fail
  refine bodyPost_ret (results_cell_row Try.results28 _ _ (w.heap.size + 1 + 1) 43 (arrv 3 (vc3 (subV (x0) (y0)) (subV (x1) (y1)) (subV (x2) (y2)))) (0, 0) _ rfl r1 Try.underlying43 rfl (iv3.trans (by rw [arrv_size]))) rfl ⟨?_, ?_⟩
  · rw [← HX.out.1.1, ← HX.out.1.2.1, ← HX.out.1.2.2, ← HX.out.2.1, ← HX.out.2.2.1, ← HX.out.2.2.2, vc3_eq (fun i => subV (A i) (B i))]
  · rw [show (h || orB (fun i => subH (A i) (B i)) 3) = (h || subH (x0) (y0) || subH (x1) (y1) || subH (x2) (y2)) by rw [← HX.out.1.1, ← HX.out.1.2.1, ← HX.out.1.2.2, ← HX.out.2.1, ← HX.out.2.2.1, ← HX.out.2.2.2]; simp [orB, Bool.or_assoc]]; exact B1
structure Vvscale (c : Addr) (h : Bool) (A : Nat → Int) (w wr : World) : Prop where
  upd : Upd c h w wr
  a : Blk wr w.heap.size 43 3 A
  r : Blk wr (w.heap.size + 1) 43 3 (fun _ => 0)
theorem Vvscale.upd' {c : Addr} {h h' : Bool} {A : Nat → Int} {w wr w' : World} (s : Vvscale c h A w wr) (hc : c.block < w.heap.size) (u : Upd c h' wr w') : Vvscale c h' A w w' := ⟨s.upd.trans u, s.a.upd u (by omega), s.r.upd u (by omega)⟩
theorem Vvscale.drew {c : Addr} {h : Bool} {A : Nat → Int} {w wr : World} (s : Vvscale c h A w wr) : Vvscale c h A w wr.drew := ⟨s.upd.drew, s.a.drew, s.r.drew⟩
set_option maxHeartbeats 4000000 in
theorem vscale_any (c : Addr) (h : Bool) (A : Nat → Int) (k : Int) (w : World) (hc : w.cell? c = some (.bool h)) (hf : w.frozen? c = false) :
    Calls Try.prog 34 #[.pointer (some c), .agg (arrv 3 A), .int .i64 k] w fun e w' => e = .returned (.agg (arrv 3 (fun i => mulV (A i) k 30))) ∧ Upd c (h || orB (fun i => mulH (A i) k 30) 3) w w' := by
  have hcb := World.block_lt_of_cell? w c hc
  have S0 := Lib.hid (show Vvscale c h A w ((w.alloc (.cells (arrv 3 A) 43)).alloc (.cells #[.int .i64 0, .int .i64 0, .int .i64 0] 43)) from ⟨Upd.then (Upd.refl hc) (by (repeat (first | with_reducible exact Below.refl _ _ | with_reducible apply Below.drew | (with_reducible refine below_drewN ?_ _) | (with_reducible refine Below.alloc ?_ (by (try simp) <;> omega) _) | (with_reducible refine Below.setCell ?_ (by (try simp) <;> omega) _)))), (Blk.new w _ 3 A).alloc _, by rw [zv3]; exact Blk.new1 w _ _ 3 _⟩)
  have HC := Lib.hid hc
  have HF := Lib.hid hf
  clear hc hf
  go_enter Try.func34, Try.ntmps34
  go_upto_region 1 with fail
  generalize (w.alloc (.cells (arrv 3 A) 43)).alloc (.cells #[.int .i64 0, .int .i64 0, .int .i64 0] 43) = W0 at *
  have HS := Lib.hid S0.out.drew
  clear S0
  obtain ⟨x0, hx0⟩ : ∃ x, A 0 = x := ⟨_, rfl⟩
  obtain ⟨x1, hx1⟩ : ∃ x, A 1 = x := ⟨_, rfl⟩
  obtain ⟨x2, hx2⟩ : ∃ x, A 2 = x := ⟨_, rfl⟩
  have HX := Lib.hid (And.intro hx0 (And.intro hx1 hx2))
  clear hx0 hx1 hx2
  refine wp_region_M (fun w' => Blk w' w.heap.size 43 3 A) 16 (by kernel_rfl) ?_ (fun hHeld => ?_)
  · exact HS.out.a
  refine wpAnyM_take 0 (v := ?_) rfl (by kernel_rfl) (fun _ _ _ h => h) (Or.inl ⟨by rfl, ?_⟩) (by assumption) ?_
  rotate_left
  · (intro wx hSw; (try dsimp only at hSw); go_simp; (try with_reducible rfl))
  (try simp only [Act.put, nA, nB, nC])
  refine wpAnyM_take 1 (v := ?_) rfl (by kernel_rfl) (fun _ _ _ h => h) (Or.inl ⟨by rfl, ?_⟩) (by assumption) ?_
  rotate_left
  · (intro wx hSw; (try dsimp only at hSw); go_simp; (try with_reducible rfl))
  (try simp only [Act.put, nA, nB, nC])
  refine wpAnyM_take 2 (v := ?_) rfl (by kernel_rfl) (fun _ _ _ h => h) (Or.inl ⟨by rfl, ?_⟩) (by assumption) ?_
  rotate_left
  · (intro wx hSw; have h0 := hSw.cell (i := 0) (by decide); rw [HX.out.1] at h0; go_simp; (try with_reducible rfl))
  (try simp only [Act.put, nA, nB, nC])
  refine wpAnyM_take 3 (v := ?_) rfl (by kernel_rfl) (fun _ _ _ h => h) (Or.inl ⟨by rfl, ?_⟩) (by assumption) ?_
  rotate_left
  · (intro wx hSw; (try dsimp only at hSw); go_simp; (try with_reducible rfl))
  (try simp only [Act.put, nA, nB, nC])
  refine wpAnyM_take 5 (v := ?_) rfl (by kernel_rfl) (fun _ _ _ h => h) (Or.inl ⟨by rfl, ?_⟩) (by assumption) ?_
  rotate_left
  · (intro wx hSw; (try dsimp only at hSw); go_simp; (try with_reducible rfl))
  (try simp only [Act.put, nA, nB, nC])
  refine wpAnyM_take 6 (v := ?_) rfl (by kernel_rfl) (fun _ _ _ h => h) (Or.inl ⟨by rfl, ?_⟩) (by assumption) ?_
  rotate_left
  · (intro wx hSw; (try dsimp only at hSw); go_simp; (try with_reducible rfl))
  (try simp only [Act.put, nA, nB, nC])
  refine wpAnyM_take 7 (v := ?_) rfl (by kernel_rfl) (fun _ _ _ h => h) (Or.inl ⟨by rfl, ?_⟩) (by assumption) ?_
  rotate_left
  · (intro wx hSw; have h0 := hSw.cell (i := 1) (by decide); rw [HX.out.2.1] at h0; go_simp; (try with_reducible rfl))
  (try simp only [Act.put, nA, nB, nC])
  refine wpAnyM_take 8 (v := ?_) rfl (by kernel_rfl) (fun _ _ _ h => h) (Or.inl ⟨by rfl, ?_⟩) (by assumption) ?_
  rotate_left
  · (intro wx hSw; (try dsimp only at hSw); go_simp; (try with_reducible rfl))
  (try simp only [Act.put, nA, nB, nC])
  refine wpAnyM_take 10 (v := ?_) rfl (by kernel_rfl) (fun _ _ _ h => h) (Or.inl ⟨by rfl, ?_⟩) (by assumption) ?_
  rotate_left
  · (intro wx hSw; (try dsimp only at hSw); go_simp; (try with_reducible rfl))
  (try simp only [Act.put, nA, nB, nC])
  refine wpAnyM_take 11 (v := ?_) rfl (by kernel_rfl) (fun _ _ _ h => h) (Or.inl ⟨by rfl, ?_⟩) (by assumption) ?_
  rotate_left
  · (intro wx hSw; (try dsimp only at hSw); go_simp; (try with_reducible rfl))
  (try simp only [Act.put, nA, nB, nC])
  refine wpAnyM_take 12 (v := ?_) rfl (by kernel_rfl) (fun _ _ _ h => h) (Or.inl ⟨by rfl, ?_⟩) (by assumption) ?_
  rotate_left
  · (intro wx hSw; have h0 := hSw.cell (i := 2) (by decide); rw [HX.out.2.2] at h0; go_simp; (try with_reducible rfl))
  (try simp only [Act.put, nA, nB, nC])
  refine wpAnyM_take 13 (v := ?_) rfl (by kernel_rfl) (fun _ _ _ h => h) (Or.inl ⟨by rfl, ?_⟩) (by assumption) ?_
  rotate_left
  · (intro wx hSw; (try dsimp only at hSw); go_simp; (try with_reducible rfl))
  (try simp only [Act.put, nA, nB, nC])
  refine wpAnyM_oneS 4 rfl (by kernel_rfl) (fun K hK => ?_)
  go_simp
  (refine (fmul_any c _ x0 k 30 _ (HS.out.upd.cellc HC.out) ((HS.out.upd.frozen hcb).trans HF.out)).mono ?_); rintro e w1 ⟨rfl, hu⟩; have HS2 := Lib.hid (HS.out.upd' hcb hu); clear HS hu; have HS := HS2; clear HS2
  (try dsimp only)
  (try simp only [Act.put, nA, nB, nC])
  clear hHeld
  refine hK.out _ _ ?_ (fun hHeld => ?_)
  · exact HS.out.a
  clear hK K
  (try simp only [Act.put, nA, nB, nC])
  refine wpAnyM_oneS 9 rfl (by kernel_rfl) (fun K hK => ?_)
  go_simp
  (refine (fmul_any c _ x1 k 30 _ (HS.out.upd.cellc HC.out) ((HS.out.upd.frozen hcb).trans HF.out)).mono ?_); rintro e w2 ⟨rfl, hu⟩; have HS2 := Lib.hid (HS.out.upd' hcb hu); clear HS hu; have HS := HS2; clear HS2
  (try dsimp only)
  (try simp only [Act.put, nA, nB, nC])
  clear hHeld
  refine hK.out _ _ ?_ (fun hHeld => ?_)
  · exact HS.out.a
  clear hK K
  (try simp only [Act.put, nA, nB, nC])
  refine wpAnyM_oneS 14 rfl (by kernel_rfl) (fun K hK => ?_)
  go_simp
  (refine (fmul_any c _ x2 k 30 _ (HS.out.upd.cellc HC.out) ((HS.out.upd.frozen hcb).trans HF.out)).mono ?_); rintro e w3 ⟨rfl, hu⟩; have HS2 := Lib.hid (HS.out.upd' hcb hu); clear HS hu; have HS := HS2; clear HS2
  (try dsimp only)
  (try simp only [Act.put, nA, nB, nC])
  clear hHeld
  refine hK.out _ _ ?_ (fun hHeld => ?_)
  · exact HS.out.a
  clear hK K
  (try simp only [Act.put, nA, nB, nC])
  refine wpAnyM_take 15 (v := ?_) rfl (by kernel_rfl) (fun _ _ _ h => h) (Or.inl ⟨by rfl, ?_⟩) (by assumption) ?_
  rotate_left
  · (intro wx hSw; refine Eq.trans (run_build_v3 (.tmp 11) (.tmp 16) (.tmp 21) (by rfl) (by rfl) (by rfl) (by rfl)) ?_; with_reducible rfl)
  (try simp only [Act.put, nA, nB, nC])
  refine wpAnyM_one 16 rfl (by kernel_rfl) (fun K hK => ?_)
  go_simp; rw [if_pos (arrv_size _ _), run_storeCells_row _ HS.out.r]; go_simp
  refine hK.out _ _ (.inl (by kernel_rfl)) (fun _ => ?_)
  clear hK K
  (try simp only [Act.put, nA, nB, nC])
  refine wpAnyM_done (by kernel_rfl) ?_ _
  have r1 := HS.out.r.setRow (vc3 (mulV (x0) k 30) (mulV (x1) k 30) (mulV (x2) k 30))
  have B1 : Upd c (h || mulH (x0) k 30 || mulH (x1) k 30 || mulH (x2) k 30) w (w3.setRow (w.heap.size + 1) (arrv 3 (vc3 (mulV (x0) k 30) (mulV (x1) k 30) (mulV (x2) k 30)))) := HS.out.upd.then' (below_row (Below.refl _ _) (by omega) _)
  generalize w3.setRow (w.heap.size + 1) (arrv 3 (vc3 (mulV (x0) k 30) (mulV (x1) k 30) (mulV (x2) k 30))) = W2 at *
  go_wp2_with fail
  refine bodyPost_ret (results_cell_row Try.results34 _ _ (w.heap.size + 1) 43 (arrv 3 (vc3 (mulV (x0) k 30) (mulV (x1) k 30) (mulV (x2) k 30))) (0, 0) _ rfl r1 Try.underlying43 rfl (iv3.trans (by rw [arrv_size]))) rfl ⟨?_, ?_⟩
  · rw [← HX.out.1, ← HX.out.2.1, ← HX.out.2.2, vc3_eq (fun i => mulV (A i) k 30)]
  · rw [show (h || orB (fun i => mulH (A i) k 30) 3) = (h || mulH (x0) k 30 || mulH (x1) k 30 || mulH (x2) k 30) by rw [← HX.out.1, ← HX.out.2.1, ← HX.out.2.2]; simp [orB, Bool.or_assoc]]; exact B1
set_option maxHeartbeats 2000000 in
theorem vnorm_any (c : Addr) (h : Bool) (A : Nat → Int) (w : World) (hc : w.cell? c = some (.bool h)) (hf : w.frozen? c = false) :
    Calls Try.prog 79 #[.pointer (some c), .agg (arrv 3 A)] w fun e w' => e = .returned (.int .i64 (hypV A 3)) ∧ Upd c (h || hypH A 3) w w' := by
  have hcb := World.block_lt_of_cell? w c hc
  have HB := Blk.new w 43 3 A
  have U0 : Upd c h w (w.alloc (.cells (arrv 3 A) 43)) := Upd.then (Upd.refl hc) (by (repeat (first | with_reducible exact Below.refl _ _ | with_reducible apply Below.drew | (with_reducible refine below_drewN ?_ _) | (with_reducible refine Below.alloc ?_ (by (try simp) <;> omega) _) | (with_reducible refine Below.setCell ?_ (by (try simp) <;> omega) _))))
  have HY := Lib.hid (hypot_any c h A w.heap.size 0 3 3 (w.alloc (.cells (arrv 3 A) 43)) (U0.cellc hc) ((U0.frozen hcb).trans hf) (by decide) (by decide) (fun i hi => by rw [Nat.zero_add]; exact HB.cell hi))
  have HU := Lib.hid U0
  clear HB U0 hc hf
  go_enter Try.func79, Try.ntmps79
  go_upto_region 1 with fail
  generalize w.alloc (.cells (arrv 3 A) 43) = W0 at *
  go_wp2_with (go_at_call 52; (refine HY.out.mono ?_); rintro e w1 ⟨rfl, hu1⟩)
  go_ret
  exact ⟨rfl, HU.out.trans hu1⟩
end Go.Proofs.Ytpoiobgpggiebaa
/- Contracts of package trig (2): Sin, Cos. -/
namespace Go.Proofs.Ytpoiobgpggiebaa
open Go.RowKit
set_option maxRecDepth 100000
structure SnR (c : Addr) (h : Bool) (w wr : World) : Prop where
  upd : Upd c h w wr
  cell : wr.cell? c = some (.bool h)
  free : wr.frozen? c = false
theorem SnR.upd' {c : Addr} {h h' : Bool} {w wr w' : World} (s : SnR c h w wr) (u : Upd c h' wr w') : SnR c h' w w' :=
  ⟨s.upd.trans u, u.cellc s.cell, (u.frozen (World.block_lt_of_cell? _ _ s.cell)).trans s.free⟩
theorem SnR.down {c : Addr} {h : Bool} {w wr w' : World} (s : SnR c h w wr) (u : Below wr.heap.size wr w') : SnR c h w w' :=
  ⟨s.upd.then u, (u.cell (World.block_lt_of_cell? _ _ s.cell)).trans s.cell, (u.frozen (World.block_lt_of_cell? _ _ s.cell)).trans s.free⟩
theorem lst_sin (w : World) (T : TypeId) : Lst (w.alloc (.cells #[.int .i64 (-27), .int .i64 2959, .int .i64 (-213044), .int .i64 8947849, .int .i64 (-178956971), .int .i64 1073741824] T)) w.heap.size 0 (5 + 1) sinL := by
  intro i hi
  obtain rfl | rfl | rfl | rfl | rfl | rfl : i = 0 ∨ i = 1 ∨ i = 2 ∨ i = 3 ∨ i = 4 ∨ i = 5 := by omega
  all_goals simp [go_sem, sinL]
theorem lst_cos (w : World) (T : TypeId) : Lst (w.alloc (.cells #[.int .i64 2, .int .i64 (-296), .int .i64 26631, .int .i64 (-1491308), .int .i64 44739243, .int .i64 (-536870912), .int .i64 1073741824] T)) w.heap.size 0 (6 + 1) cosL := by
  intro i hi
  obtain rfl | rfl | rfl | rfl | rfl | rfl | rfl : i = 0 ∨ i = 1 ∨ i = 2 ∨ i = 3 ∨ i = 4 ∨ i = 5 ∨ i = 6 := by omega
  all_goals simp [go_sem, cosL]
set_option maxHeartbeats 8000000 in
/-- Of a folded angle. -/
theorem sin_walk (c : Addr) (h : Bool) (a A r W : Int) (w : World) (hc : w.cell? c = some (.bool h)) (hf : w.frozen? c = false) (hA : satV a = A) (hr : wrpV A = r) (hW : fldV r = W) :
    Calls Try.prog 80 #[.pointer (some c), .int .i64 a] w fun e w' => e = .returned (.int .i64 (oneC (qrtV W))) ∧ Upd c (h || satH a || qrtH W) w w' := by
  have br := wrpV_bd A
  rw [hr] at br
  have bW := fldV_bd br.1 br.2
  rw [hW] at bW
  have hW2 := hW
  unfold fldV at hW2
  have SC := sat_upd c h a w hc hf
  rw [hA] at SC
  obtain ⟨H1, hH1⟩ : ∃ x, (h || satH a) = x := ⟨_, rfl⟩
  rw [hH1] at SC ⊢
  have SC := Lib.hid SC
  have R0 := Lib.hid (show SnR c h w w from ⟨Upd.refl hc, hc, hf⟩)
  have WC := Lib.hid (fun (x : World) => wrap_any A x)
  rw [hr] at WC
  have cs : (decide (1686629713 < r) = true ∧ IntKind.i64.wrap (3373259426 - r) = W) ∨ (decide (1686629713 < r) = false ∧ decide (r < -1686629713) = true ∧ IntKind.i64.wrap (-3373259426 - r) = W) ∨ (decide (1686629713 < r) = false ∧ decide (r < -1686629713) = false ∧ W = r) := by
    by_cases h1 : 1686629713 < r
    · rw [if_pos h1] at hW2
      exact .inl ⟨by simpa using h1, by rw [hW2]; exact IntWalk.i64_in _ (by omega)⟩
    · rw [if_neg h1] at hW2
      by_cases h2 : r < -1686629713
      · rw [if_pos h2] at hW2
        exact .inr (.inl ⟨by simpa using h1, by simpa using h2, by rw [hW2]; exact IntWalk.i64_in _ (by omega)⟩)
      · rw [if_neg h2] at hW2
        exact .inr (.inr ⟨by simpa using h1, by simpa using h2, hW2.symm⟩)
  have QE := Lib.hid (show qrtV W = (if absV W ≤ 843314857 then sn1V W else if W < 0 then -cs1V (1686629713 - absV W) else cs1V (1686629713 - absV W)) ∧ qrtH W = if absV W ≤ 843314857 then sn1H W else cs1H (1686629713 - absV W) from ⟨rfl, rfl⟩)
  have bX : 0 ≤ absV W ∧ absV W ≤ 1686629713 := by unfold absV; rw [if_neg (by omega)]; split <;> omega
  have AC := fun (x : World) => fabs_any W x
  obtain ⟨X, hX⟩ : ∃ x, absV W = x := ⟨_, rfl⟩
  rw [hX] at bX AC QE
  have AC := Lib.hid AC
  have eX : IntKind.i64.wrap (1686629713 - X) = 1686629713 - X := IntWalk.i64_in _ (by omega)
  obtain ⟨Y, hY⟩ : ∃ x, 1686629713 - X = x := ⟨_, rfl⟩
  rw [hY] at eX QE
  have HY := Lib.hid hY
  obtain ⟨V, hV⟩ : ∃ x, qrtV W = x := ⟨_, rfl⟩
  obtain ⟨HQ, hHQ⟩ : ∃ x, qrtH W = x := ⟨_, rfl⟩
  rw [hV, hHQ] at QE ⊢
  have Cbd := cs1V_bd Y
  have eC : IntKind.i64.wrap (-(cs1V Y)) = -(cs1V Y) := IntWalk.i64_in _ (by omega)
  have QF : Hid ((X ≤ 843314857 → V = sn1V W ∧ (H1 || HQ) = (H1 || mulH W W 30 || serH (mulV W W 30) sinL 5 || mulH W (serV (mulV W W 30) sinL 5) 30)) ∧ (¬ X ≤ 843314857 → (H1 || HQ) = (H1 || mulH Y Y 30 || serH (mulV Y Y 30) cosL 6) ∧ (W < 0 → V = -cs1V Y) ∧ (¬ W < 0 → V = cs1V Y))) := by
    refine Lib.hid ⟨fun hx => ?_, fun hx => ?_⟩
    · rw [QE.out.1, QE.out.2, if_pos hx, if_pos hx]; unfold sn1H; exact ⟨rfl, by simp [Bool.or_assoc]⟩
    · rw [QE.out.1, QE.out.2, if_neg hx, if_neg hx]; unfold cs1H; exact ⟨by simp [Bool.or_assoc], fun h => by rw [if_pos h], fun h => by rw [if_neg h]⟩
  have EO := Lib.hid (show oneC V = min (max V (-1073741824)) 1073741824 from rfl)
  clear QE Cbd
  clear hY hX hV hHQ hA hr hW hW2 hH1 bW br hc hf
  go_enter Try.func80, Try.ntmps80
  go_upto_region 2 with (first | (go_at_call 44; (refine SC.out.mono ?_); rintro e w1 ⟨rfl, hu1⟩; have R1 := Lib.hid (R0.out.upd' hu1); clear hu1 SC R0) | (go_at_call 86; (refine (WC.out _).mono ?_); rintro e w2 ⟨rfl, rfl⟩))
  by_cases hx : X ≤ 843314857
  · have dx : decide (X ≤ 843314857) = true := by simpa using hx
    have QG := Lib.hid (QF.out.1 hx)
    clear QF hx eC
    obtain ⟨z, hz⟩ : ∃ x, mulV W W 30 = x := ⟨_, rfl⟩
    obtain ⟨s, hs⟩ : ∃ x, serV z sinL 5 = x := ⟨_, rfl⟩
    rw [hz, hs] at QG
    have HZ := Lib.hid hz
    have HS := Lib.hid hs
    clear hz hs
    rcases cs with ⟨d1, e1⟩ | ⟨d1, d2, e1⟩ | ⟨d1, d2, rfl⟩
    all_goals
      go_upto_region 13 with (go_at_call 24; (refine (AC.out _).mono ?_); rintro e w3 ⟨rfl, rfl⟩)
      refine wp_region_lit ?_
      refine wpList_val (v := ?_) rfl ?_ ?_
      rotate_left
      · (go_simp; (try (first | with_reducible rfl | (constructor <;> with_reducible rfl))))
      (try simp only [Act.put, nA, nB, nC])
      refine wpList_val (v := ?_) rfl ?_ ?_
      rotate_left
      · (go_simp; (try (first | with_reducible rfl | (constructor <;> with_reducible rfl))))
      (try simp only [Act.put, nA, nB, nC])
      refine wpList_val (v := ?_) rfl ?_ ?_
      rotate_left
      · (go_simp; (try (first | with_reducible rfl | (constructor <;> with_reducible rfl))))
      (try simp only [Act.put, nA, nB, nC])
      refine wpList_val (v := ?_) rfl ?_ ?_
      rotate_left
      · (go_simp; (try (first | with_reducible rfl | (constructor <;> with_reducible rfl))))
      (try simp only [Act.put, nA, nB, nC])
      refine wpList_val (v := ?_) rfl ?_ ?_
      rotate_left
      · (go_simp; (try (first | with_reducible rfl | (constructor <;> with_reducible rfl))))
      (try simp only [Act.put, nA, nB, nC])
      refine wpList_val (v := ?_) rfl ?_ ?_
      rotate_left
      · (go_simp; (try (first | with_reducible rfl | (constructor <;> with_reducible rfl))))
      (try simp only [Act.put, nA, nB, nC])
      refine wpList_step (fun K hK => ?_)
      go_simp
      (refine (tm_any c H1 W W _ R1.out.cell R1.out.free).mono ?_); rintro e w4 ⟨rfl, hu⟩; (rw [HZ.out]); have R4 := Lib.hid (R1.out.upd' hu); clear hu R1
      (try dsimp only)
      (try simp only [Act.put, nA, nB, nC])
      refine hK _ _ ?_
      clear hK K
      refine wpList_act (v := ?_) (w' := ?_) rfl ?_ ?_
      rotate_left 2
      · (go_simp; (try (first | with_reducible rfl | (constructor <;> with_reducible rfl))))
      (try simp only [Act.put, nA, nB, nC])
      refine wpList_step (fun K hK => ?_)
      go_simp
      have R5 := Lib.hid (R4.out.down (Below.alloc (Below.refl _ _) (Nat.le_refl _) (.cells #[.int .i64 (-27), .int .i64 2959, .int .i64 (-213044), .int .i64 8947849, .int .i64 (-178956971), .int .i64 1073741824] 2))); (refine (series_any c _ z sinL w4.heap.size 0 6 5 _ R5.out.cell R5.out.free (by decide) (by decide) (by decide) (lst_sin w4 _)).mono ?_); rintro e w5 ⟨rfl, hu⟩; (rw [HS.out]); have R6 := Lib.hid (R5.out.upd' hu); clear hu R4 R5
      (try dsimp only)
      (try simp only [Act.put, nA, nB, nC])
      refine hK _ _ ?_
      clear hK K
      refine wpList_step (fun K hK => ?_)
      go_simp
      (refine (tm_any c _ W s _ R6.out.cell R6.out.free).mono ?_); rintro e w6 ⟨rfl, hu⟩; have R7 := Lib.hid (R6.out.upd' hu); clear hu R6
      (try dsimp only)
      (try simp only [Act.put, nA, nB, nC])
      refine hK _ _ ?_
      clear hK K
      refine wpList_val (v := ?_) rfl ?_ ?_
      rotate_left
      · (go_simp; (try (first | with_reducible rfl | (constructor <;> with_reducible rfl))))
      (try simp only [Act.put, nA, nB, nC])
      refine wpList_nil ?_
      obtain ⟨v, hv⟩ : ∃ x, mulV W s 30 = x := ⟨_, rfl⟩
      rw [hv]
      have EV := Lib.hid (show V = v by rw [QG.out.1, ← hv, ← HS.out, ← HZ.out]; rfl)
      clear hv
      go_wp2_with fail
      go_ret
      exact ⟨by rw [EO.out, EV.out]; rfl, by rw [QG.out.2]; exact R7.out.upd⟩
  · have dx : decide (X ≤ 843314857) = false := by simpa using hx
    have QG := Lib.hid (QF.out.2 (by omega))
    clear QF hx
    obtain ⟨z, hz⟩ : ∃ x, mulV Y Y 30 = x := ⟨_, rfl⟩
    obtain ⟨s, hs⟩ : ∃ x, cs1V Y = x := ⟨_, rfl⟩
    have hs2 : serV z cosL 6 = s := by rw [← hz]; exact hs
    rw [hz, hs] at QG
    rw [hs] at eC
    have HZ := Lib.hid hz
    have HS := Lib.hid hs2
    clear hz hs hs2
    have dn : (decide (W < 0) = true ∧ V = -s) ∨ (decide (W < 0) = false ∧ V = s) := by
      by_cases h : W < 0
      · exact .inl ⟨by simpa using h, QG.out.2.1 h⟩
      · exact .inr ⟨by simpa using h, QG.out.2.2 (by omega)⟩
    have QK := Lib.hid QG.out.1
    clear QG
    rcases cs with ⟨d1, e1⟩ | ⟨d1, d2, e1⟩ | ⟨d1, d2, rfl⟩
    all_goals
      go_upto_region 9 with (go_at_call 24; (refine (AC.out _).mono ?_); rintro e w3 ⟨rfl, rfl⟩)
      refine wp_region_lit ?_
      refine wpList_val (v := ?_) rfl ?_ ?_
      rotate_left
      · (go_simp; (try (first | with_reducible rfl | (constructor <;> with_reducible rfl))))
      (try simp only [Act.put, nA, nB, nC])
      refine wpList_val (v := ?_) rfl ?_ ?_
      rotate_left
      · (go_simp; (try (first | with_reducible rfl | (constructor <;> with_reducible rfl))))
      (try simp only [Act.put, nA, nB, nC])
      refine wpList_val (v := ?_) rfl ?_ ?_
      rotate_left
      · (go_simp; (try (first | with_reducible rfl | (constructor <;> with_reducible rfl))))
      (try simp only [Act.put, nA, nB, nC])
      refine wpList_val (v := ?_) rfl ?_ ?_
      rotate_left
      · (go_simp; (try (first | with_reducible rfl | (constructor <;> with_reducible rfl))))
      (try simp only [Act.put, nA, nB, nC])
      refine wpList_step (fun K hK => ?_)
      go_simp
      (simp only [HY.out]); (refine (tm_any c H1 Y Y _ R1.out.cell R1.out.free).mono ?_); rintro e w4 ⟨rfl, hu⟩; (rw [HZ.out]); have R4 := Lib.hid (R1.out.upd' hu); clear hu R1
      (try dsimp only)
      (try simp only [Act.put, nA, nB, nC])
      refine hK _ _ ?_
      clear hK K
      refine wpList_act (v := ?_) (w' := ?_) rfl ?_ ?_
      rotate_left 2
      · (go_simp; (try (first | with_reducible rfl | (constructor <;> with_reducible rfl))))
      (try simp only [Act.put, nA, nB, nC])
      refine wpList_step (fun K hK => ?_)
      go_simp
      have R5 := Lib.hid (R4.out.down (Below.alloc (Below.refl _ _) (Nat.le_refl _) (.cells #[.int .i64 2, .int .i64 (-296), .int .i64 26631, .int .i64 (-1491308), .int .i64 44739243, .int .i64 (-536870912), .int .i64 1073741824] 2))); (refine (series_any c _ z cosL w4.heap.size 0 7 6 _ R5.out.cell R5.out.free (by decide) (by decide) (by decide) (lst_cos w4 _)).mono ?_); rintro e w5 ⟨rfl, hu⟩; (rw [HS.out]); have R6 := Lib.hid (R5.out.upd' hu); clear hu R4 R5
      (try dsimp only)
      (try simp only [Act.put, nA, nB, nC])
      refine hK _ _ ?_
      clear hK K
      refine wpList_val (v := ?_) rfl ?_ ?_
      rotate_left
      · (go_simp; (try (first | with_reducible rfl | (constructor <;> with_reducible rfl))))
      (try simp only [Act.put, nA, nB, nC])
      refine wpList_nil ?_
      rcases dn with ⟨q1, EV⟩ | ⟨q1, EV⟩
      all_goals
        have EV := Lib.hid EV
        go_wp2_with fail
        go_ret
        exact ⟨by (first | (rw [show oneC V = min (-min s 1073741824) 1073741824 by rw [EO.out, EV.out]; omega]; rfl) | (rw [EO.out, EV.out]; rfl)), by rw [QK.out]; exact R6.out.upd⟩
theorem sin_any (c : Addr) (h : Bool) (a : Int) (w : World) (hc : w.cell? c = some (.bool h)) (hf : w.frozen? c = false) :
    Calls Try.prog 80 #[.pointer (some c), .int .i64 a] w fun e w' => e = .returned (.int .i64 (sinV a)) ∧ Upd c (h || sinH a) w w' := by
  refine (sin_walk c h a _ _ _ w hc hf rfl rfl rfl).mono ?_
  rintro e w' ⟨rfl, hu⟩
  refine ⟨rfl, ?_⟩
  rw [show (h || sinH a) = (h || satH a || qrtH (fldV (wrpV (satV a)))) by unfold sinH; simp [Bool.or_assoc]]
  exact hu
theorem cos_any (c : Addr) (h : Bool) (a : Int) (w : World) (hc : w.cell? c = some (.bool h)) (hf : w.frozen? c = false) :
    Calls Try.prog 81 #[.pointer (some c), .int .i64 a] w fun e w' => e = .returned (.int .i64 (cosV a)) ∧ Upd c (h || cosH a) w w' := by
  have br := wrpV_bd a
  have WC := fun (x : World) => wrap_any a x
  have SC := sin_any c h (1686629713 + wrpV a) w hc hf
  rw [show cosV a = sinV (1686629713 + wrpV a) from rfl, show cosH a = sinH (1686629713 + wrpV a) from rfl]
  obtain ⟨r, hr⟩ : ∃ x, wrpV a = x := ⟨_, rfl⟩
  rw [hr] at WC SC br ⊢
  have WC := Lib.hid WC
  have e1 : IntKind.i64.wrap (1686629713 + r) = 1686629713 + r := IntWalk.i64_in _ (by omega)
  obtain ⟨q, hq⟩ : ∃ x, 1686629713 + r = x := ⟨_, rfl⟩
  rw [hq] at SC e1 ⊢
  rw [← hq] at e1
  have SC := Lib.hid SC
  have HQ := Lib.hid hq
  clear hr hq br hc hf
  go_enter Try.func81, Try.ntmps81
  go_wp2_with (first | (go_at_call 86; (refine (WC.out _).mono ?_); rintro e w2 ⟨rfl, rfl⟩) | (go_at_call 80; (try rw [HQ.out]); (refine SC.out.mono ?_); rintro e w3 ⟨rfl, hu1⟩))
  go_ret
  exact ⟨rfl, hu1⟩
end Go.Proofs.Ytpoiobgpggiebaa
