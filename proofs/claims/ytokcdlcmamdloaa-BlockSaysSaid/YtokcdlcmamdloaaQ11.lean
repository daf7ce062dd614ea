/- Contracts of the program's functions and plain laws, part 11: they hold for all arguments. -/
import Derived.Test.YtokcdlcmamdloaaQ02
import Derived.Test.YtokcdlcmamdloaaQ05
import Derived.Test.YtokcdlcmamdloaaQ07
import Derived.Test.YtokcdlcmamdloaaQ06
import Derived.Test.YtokcdlcmamdloaaQ10
import Derived.Test.YtokcdlcmamdloaaQ04
import Derived.Test.YtokcdlcmamdloaaProg
import Derived.Deep.Upon
import Derived.Test.YtokcdlcmamdloaaQ03
import Derived.OpenShut
import Derived.ProofKit
import Derived.Carry
/- A region that draws its order: behind its last call another fact about the world may be taken up. -/
namespace Go.Proofs.Ytokcdlcmamdloaa
open Go
theorem getD_keeps {listed : Array Bool} {i L : Nat} (h : listed.getD L false = true) : (listed.setIfInBounds i true).getD L false = true := by
  by_cases hi : i = L
  · subst hi
    rcases Nat.lt_or_ge i listed.size with h' | h'
    · simp [h']
    · simp [Array.getElem?_eq_none h'] at h
  · rw [getD_set_ne' false hi]; exact h
theorem wpAnyM_of_any {P : Program} {md : Region.Mode} {ops : Array Oper} {Q : Exit → Act → World → Prop} {S : World → Prop} {L : Nat} : ∀ (fuel : Nat) (listed : Array Bool) (a : Act) (w : World), listed.getD L false = true → wpAny P md ops Q fuel listed a w → wpAnyM P md ops Q S L fuel listed a w
  | 0, _, _, _, _, h => h
  | fuel + 1, _, _, _, hL, h => ⟨h.1, fun i hi => wpOp_mono (fun a' w' h' => ⟨.inl (getD_keeps hL), wpAnyM_of_any fuel _ a' w' (getD_keeps hL) h'⟩) (h.2 i hi)⟩
theorem wpAnyM_switch {P : Program} {md : Region.Mode} {ops : Array Oper} {Q : Exit → Act → World → Prop} {S : World → Prop} {L : Nat} (S' : World → Prop) (L' : Nat) {fuel : Nat} {listed : Array Bool} {a : Act} {w : World}
    (hL : listed.getD L false = true) (hS : S' w) (h : S' w → wpAnyM P md ops Q S' L' fuel listed a w) : wpAnyM P md ops Q S L fuel listed a w :=
  wpAnyM_of_any fuel listed a w hL (wpAny_of_M fuel listed a w (h hS))
/-- Take number i first: x waits for it, and L for x. -/
theorem wpAnyM_first2 {P : Program} {md : Region.Mode} {ops : Array Oper} {Q : Exit → Act → World → Prop} {S : World → Prop} {L : Nat} {i x : Nat} {oi : Oper} {v : Value} (hi : ops[i]? = some oi) (hsel : ∀ (j : Nat) (o : Oper) cs b, ops[j]? = some o → o.op ≠ .select cs b)
    (hQ : ∀ c a w, Q (.panic c) (a.put oi.dst v) w → Q (.panic c) a w) (hiL : i ≠ L) (hiX : i ≠ x)
    (hX : Region.waitsFor md ops x i = true) (hL : Region.waitsFor md ops L x = true) :
    ∀ (fuel : Nat) (listed : Array Bool) (a : Act) (w : World), listed.getD L false = false → listed.getD x true = false →
      (∀ j oj, ops[j]? = some oj → j ≠ i → listed.getD j true = false → (∀ e ∈ oj.after, Region.binds md e = true → e.on ≠ i) → oi.apart ops oj = true) →
      i ∈ Region.ready md ops listed → YieldsIf P ops S oi v a → S w →
      wpAnyM P md ops Q S L fuel (listed.setIfInBounds i true) (a.put oi.dst v) w → wpAnyM P md ops Q S L (fuel + 1) listed a w := by
  intro fuel
  induction fuel with
  | zero =>
    intro listed a w _ _ _ hr hy hGw H
    refine ⟨fun h => (by rw [h] at hr; cases hr), fun j hj => ?_⟩
    by_cases hji : j = i
    · subst hji; exact hy.wpOp hi hGw ⟨.inr hGw, H⟩
    · have := ready_mono hj hji
      rw [H.1] at this
      cases this
  | succ fuel ih =>
    intro listed a w hLw hXw hfree hr hy hGw H
    refine ⟨fun h => (by rw [h] at hr; cases hr), fun j hj => ?_⟩
    by_cases hji : j = i
    · subst hji; exact hy.wpOp hi hGw ⟨.inr hGw, H⟩
    · have h1 := H.2 j (ready_mono hj hji)
      obtain ⟨hjun, oj, hoj, hall⟩ := mem_ready.1 hj
      have hiun := (mem_ready.1 hr).1
      have hnot : ∀ e ∈ oj.after, Region.binds md e = true → e.on ≠ i := fun e he hb heq => by
        have h2 := hall e he hb
        rw [heq] at h2
        exact getD_of_ready hiun h2
      have hjX : j ≠ x := fun e => by
        subst e
        obtain ⟨oX, hoX, e, he, hb, hon⟩ := Region.waitsFor_spec hX
        have : oX = oj := Option.some.inj (hoX.symm.trans hoj)
        subst this
        exact hnot e he hb hon
      have hjL : j ≠ L := fun e => by
        subst e
        obtain ⟨oL, hoL, e, he, hb, hon⟩ := Region.waitsFor_spec hL
        have : oL = oj := Option.some.inj (hoL.symm.trans hoj)
        subst this
        have h2 := hall e he hb
        rw [hon] at h2
        exact getD_of_ready hXw h2
      have h2 := wpOp_putIf hoj (hfree j oj hoj hji hjun hnot) (fun cs b => hsel i oi cs b hi) (fun cs b => hsel j oj cs b hoj) hQ hy h1
      have hfree' : ∀ k ok, ops[k]? = some ok → k ≠ i → (listed.setIfInBounds j true).getD k true = false →
          (∀ e ∈ ok.after, Region.binds md e = true → e.on ≠ i) → oi.apart ops ok = true := fun k ok hk hki hun hno => by
        refine hfree k ok hk hki ?_ hno
        by_cases hjk : j = k
        · subst hjk; exact hjun
        · rw [getD_set_ne true hjk] at hun; exact hun
      refine wpOp_mono (fun a' w' h3 => ?_) h2
      have hL' : (listed.setIfInBounds j true).getD L false = false := by rw [getD_set_ne' _ hjL]; exact hLw
      have hX' : (listed.setIfInBounds j true).getD x true = false := by rw [getD_set_ne' _ hjX]; exact hXw
      have hS' : S w' := by
        refine h3.2.1.resolve_left fun h => ?_
        rw [Array.setIfInBounds_comm _ _ (Ne.symm hji), getD_set_ne' _ hiL, hL'] at h
        cases h
      refine ⟨.inr hS', ih (listed.setIfInBounds j true) a' w' hL' hX' hfree' (ready_mono hr (Ne.symm hji)) h3.1 hS' ?_⟩
      rw [Array.setIfInBounds_comm _ _ hji]
      exact h3.2.2
theorem wpAnyM_take2 (x : Nat) (i : Nat) {P : Program} {md : Region.Mode} {ops : Array Oper} {Q : Exit → Act → World → Prop} {S : World → Prop} {L : Nat} {oi : Oper} {v : Value} {fuel : Nat} {listed : Array Bool} {a : Act} {w : World} (hi' : ops.toList[i]? = some oi)
    (hk : (Region.noSelect ops && (Region.free md ops listed i && ((Region.ready md ops listed).contains i && (Region.waitsFor md ops x i && (Region.waitsFor md ops L x && (!listed.getD L false && (!listed.getD x true && (!(i == L) && !(i == x))))))))) = true)
    (hQ : ∀ c a w, Q (.panic c) (a.put oi.dst v) w → Q (.panic c) a w) (hy : YieldsIf P ops S oi v a) (hS : S w)
    (h : wpAnyM P md ops Q S L fuel (listed.setIfInBounds i true) (a.put oi.dst v) w) : wpAnyM P md ops Q S L (fuel + 1) listed a w := by
  have hi : ops[i]? = some oi := by rwa [Array.getElem?_toList] at hi'
  simp only [Bool.and_eq_true, Bool.not_eq_true'] at hk
  obtain ⟨k1, k2, k3, k4, k5, k6, k7, k8, k9⟩ := hk
  exact wpAnyM_first2 hi (Region.noSelect_spec k1) hQ (by simpa using k8) (by simpa using k9) k4 k5 fuel listed a w k6 k7 (Region.free_spec hi k2) (by simpa using k3) hy hS h
/-- Take number i first: those of X wait for it or for one of X, and L is of X. -/
theorem wpAnyM_firstX {P : Program} {md : Region.Mode} {ops : Array Oper} {Q : Exit → Act → World → Prop} {S : World → Prop} {L : Nat} {i : Nat} (X : List Nat) {oi : Oper} {v : Value} (hi : ops[i]? = some oi) (hsel : ∀ (j : Nat) (o : Oper) cs b, ops[j]? = some o → o.op ≠ .select cs b)
    (hQ : ∀ c a w, Q (.panic c) (a.put oi.dst v) w → Q (.panic c) a w) (hiX : i ∉ X) (hLX : L ∈ X)
    (hX : ∀ x, x ∈ X → Region.waitsFor md ops x i = true ∨ ∃ z, z ∈ X ∧ Region.waitsFor md ops x z = true) :
    ∀ (fuel : Nat) (listed : Array Bool) (a : Act) (w : World), (∀ x, x ∈ X → listed.getD x true = false) →
      (∀ j oj, ops[j]? = some oj → j ≠ i → listed.getD j true = false → (∀ e ∈ oj.after, Region.binds md e = true → e.on ≠ i) → oi.apart ops oj = true) →
      i ∈ Region.ready md ops listed → YieldsIf P ops S oi v a → S w →
      wpAnyM P md ops Q S L fuel (listed.setIfInBounds i true) (a.put oi.dst v) w → wpAnyM P md ops Q S L (fuel + 1) listed a w := by
  have hiL : i ≠ L := fun e => hiX (e ▸ hLX)
  intro fuel
  induction fuel with
  | zero =>
    intro listed a w _ _ hr hy hGw H
    refine ⟨fun h => (by rw [h] at hr; cases hr), fun j hj => ?_⟩
    by_cases hji : j = i
    · subst hji; exact hy.wpOp hi hGw ⟨.inr hGw, H⟩
    · have := ready_mono hj hji
      rw [H.1] at this
      cases this
  | succ fuel ih =>
    intro listed a w hXw hfree hr hy hGw H
    refine ⟨fun h => (by rw [h] at hr; cases hr), fun j hj => ?_⟩
    by_cases hji : j = i
    · subst hji; exact hy.wpOp hi hGw ⟨.inr hGw, H⟩
    · have h1 := H.2 j (ready_mono hj hji)
      obtain ⟨hjun, oj, hoj, hall⟩ := mem_ready.1 hj
      have hiun := (mem_ready.1 hr).1
      have hnot : ∀ e ∈ oj.after, Region.binds md e = true → e.on ≠ i := fun e he hb heq => by
        have h2 := hall e he hb
        rw [heq] at h2
        exact getD_of_ready hiun h2
      have hjX : j ∉ X := fun hjx => by
        rcases hX j hjx with h | ⟨z, hz, h⟩
        · obtain ⟨oX, hoX, e, he, hb, hon⟩ := Region.waitsFor_spec h
          have : oX = oj := Option.some.inj (hoX.symm.trans hoj)
          subst this
          exact hnot e he hb hon
        · obtain ⟨oX, hoX, e, he, hb, hon⟩ := Region.waitsFor_spec h
          have : oX = oj := Option.some.inj (hoX.symm.trans hoj)
          subst this
          have h2 := hall e he hb
          rw [hon] at h2
          exact getD_of_ready (hXw z hz) h2
      have hjL : j ≠ L := fun e => hjX (e ▸ hLX)
      have h2 := wpOp_putIf hoj (hfree j oj hoj hji hjun hnot) (fun cs b => hsel i oi cs b hi) (fun cs b => hsel j oj cs b hoj) hQ hy h1
      have hfree' : ∀ k ok, ops[k]? = some ok → k ≠ i → (listed.setIfInBounds j true).getD k true = false →
          (∀ e ∈ ok.after, Region.binds md e = true → e.on ≠ i) → oi.apart ops ok = true := fun k ok hk hki hun hno => by
        refine hfree k ok hk hki ?_ hno
        by_cases hjk : j = k
        · subst hjk; exact hjun
        · rw [getD_set_ne true hjk] at hun; exact hun
      refine wpOp_mono (fun a' w' h3 => ?_) h2
      have hX' : ∀ x, x ∈ X → (listed.setIfInBounds j true).getD x true = false := fun x hx => by
        have hne : j ≠ x := fun e => by rw [e] at hjX; exact hjX hx
        rw [getD_set_ne' true hne]; exact hXw x hx
      have hS' : S w' := by
        refine h3.2.1.resolve_left fun h => ?_
        rw [Array.setIfInBounds_comm _ _ (Ne.symm hji), getD_set_ne' _ hiL] at h
        exact getD_of_ready (hX' L hLX) h
      refine ⟨.inr hS', ih (listed.setIfInBounds j true) a' w' hX' hfree' (ready_mono hr (Ne.symm hji)) h3.1 hS' ?_⟩
      rw [Array.setIfInBounds_comm _ _ hji]
      exact h3.2.2
theorem wpAnyM_takeX (X : List Nat) (i : Nat) {P : Program} {md : Region.Mode} {ops : Array Oper} {Q : Exit → Act → World → Prop} {S : World → Prop} {L : Nat} {oi : Oper} {v : Value} {fuel : Nat} {listed : Array Bool} {a : Act} {w : World} (hi' : ops.toList[i]? = some oi)
    (hk : (Region.noSelect ops && (Region.free md ops listed i && ((Region.ready md ops listed).contains i && (!X.contains i && (X.contains L && (X.all (fun x => (Region.waitsFor md ops x i || X.any fun z => Region.waitsFor md ops x z)) && X.all fun x => !listed.getD x true)))))) = true)
    (hQ : ∀ c a w, Q (.panic c) (a.put oi.dst v) w → Q (.panic c) a w) (hy : YieldsIf P ops S oi v a) (hS : S w)
    (h : wpAnyM P md ops Q S L fuel (listed.setIfInBounds i true) (a.put oi.dst v) w) : wpAnyM P md ops Q S L (fuel + 1) listed a w := by
  have hi : ops[i]? = some oi := by rwa [Array.getElem?_toList] at hi'
  simp only [Bool.and_eq_true, Bool.not_eq_true'] at hk
  obtain ⟨k1, k2, k3, k4, k5, k6, k7⟩ := hk
  refine wpAnyM_firstX X hi (Region.noSelect_spec k1) hQ (by simpa using k4) (by simpa using k5) (fun x hx => ?_) fuel listed a w (fun x hx => ?_) (Region.free_spec hi k2) (by simpa using k3) hy hS h
  · have := (List.all_eq_true.1 k6) x hx
    rw [Bool.or_eq_true] at this
    refine this.imp id fun h => ?_
    obtain ⟨z, hz, hz2⟩ := List.any_eq_true.1 h
    exact ⟨z, hz, hz2⟩
  · have := (List.all_eq_true.1 k7) x hx
    simpa using this
end Go.Proofs.Ytokcdlcmamdloaa
/- Contract of awake: it answers true. -/
namespace Go.Proofs.Ytokcdlcmamdloaa
open Go.RowKit
set_option maxRecDepth 100000
/-- The covariance of awake's first lines. -/
def awL0 : Nat → Int := fun i => if i = 0 then 17592186044416 else 0
def awL1 : Nat → Int := fun _ => 1
def awF : Nat → Int := stepF (newF 1 awL0) oneF (copyF 2 awL1)
theorem awN_diag : DiagF (newF 1 awL0) := by
  constructor
  · intro x hx; unfold newF; rw [if_pos hx]
  · intro i hi
    unfold newF
    rw [if_neg (by omega), show 276 + i - 276 = i by omega]
    by_cases h : i < 1
    · rw [if_pos h, show i = 0 by omega]; decide
    · rw [if_neg h]; decide
theorem awN_at {i : Nat} (hi : i < 24) : newF 1 awL0 (276 + i) = if i = 0 then 17592186044416 else 1 := by
  unfold newF
  rw [if_neg (by omega), show 276 + i - 276 = i by omega]
  by_cases h : i < 1
  · rw [if_pos h, show i = 0 by omega]; decide
  · rw [if_neg h, if_neg (by omega)]
theorem copy_at (i : Nat) : copyF 2 awL1 i = if i < 2 then 1 else 0 := rfl
theorem aw_step : (∀ x, x < 300 → awF x = if x < 276 then 0 else newF 1 awL0 x + copyF 2 awL1 (x - 276)) ∧ stepH (newF 1 awL0) oneF (copyF 2 awL1) = false :=
  step_diag awN_diag fun i hi => by
    rw [copy_at, awN_at hi]
    split <;> split <;> omega
theorem aw_at {i : Nat} (hi : i < 24) : awF (276 + i) = (if i = 0 then 17592186044416 else 1) + if i < 2 then 1 else 0 := by
  rw [aw_step.1 _ (by omega), if_neg (by omega), awN_at hi, show 276 + i - 276 = i by omega, copy_at]
theorem aw_diag : DiagF awF := by
  constructor
  · intro x hx; rw [aw_step.1 _ (by omega), if_pos hx]
  · intro i hi
    rw [aw_at hi]
    split <;> split <;> omega
theorem aw_again : (∀ x, x < 300 → stepF awF oneF (fun _ => 0) x = awF x) ∧ stepH awF oneF (fun _ => 0) = false := by
  have h := step_diag (q := fun _ => 0) aw_diag fun i hi => by have := aw_diag.2 i hi; constructor <;> omega
  refine ⟨fun x hx => ?_, h.2⟩
  rw [h.1 x hx]
  split
  · rename_i hx2; exact (aw_diag.1 x hx2).symm
  · exact Int.add_zero _
theorem awH_new : newH 1 awL0 = false := by decide
set_option maxHeartbeats 4000000 in
theorem awake_any (w : World) : Calls Try.prog 6 #[] w fun e w' => e = .returned (.bool true) ∧ Below w.heap.size w w' := by
  go_enter Try.func6, Try.ntmps6
  have hc0 : ((w.alloc (.cells #[.bool false] 31)).alloc (.cells #[.int .i64 17592186044416] 2)).cell? ⟨w.heap.size, 0, none⟩ = some (.bool false) := by simp [go_sem]
  have hf0 : ((w.alloc (.cells #[.bool false] 31)).alloc (.cells #[.int .i64 17592186044416] 2)).frozen? ⟨w.heap.size, 0, none⟩ = false := by simp [go_sem]
  have hL0 : Slc ((w.alloc (.cells #[.bool false] 31)).alloc (.cells #[.int .i64 17592186044416] 2)) (some ⟨w.heap.size + 1, 0, none⟩) 1 awL0 := by
    intro i hi
    obtain rfl : i = 0 := by omega
    exact ⟨_, _, rfl, by simp [go_sem, awL0]⟩
  have hb0 : Below w.heap.size w ((w.alloc (.cells #[.bool false] 31)).alloc (.cells #[.int .i64 17592186044416] 2)) := by (repeat (first | with_reducible exact Below.refl _ _ | with_reducible apply Below.drew | (with_reducible refine below_drewN ?_ _) | (with_reducible refine Below.alloc ?_ (by (try simp) <;> omega) _) | (with_reducible refine Below.setCell ?_ (by (try simp) <;> omega) _)))
  have N0 := Lib.hid (new_any _ false _ _ 1 awL0 _ hc0 hf0 hL0)
  have B0 := Lib.hid hb0
  have C0 := Lib.hid hc0
  have F0 := Lib.hid hf0
  have hcb := World.block_lt_of_cell? _ _ hc0
  clear hc0 hf0 hL0 hb0
  go_upto_region 3 with (first | (go_at_call 25; (refine N0.out.mono ?_); rintro e w2 ⟨rfl, hu2⟩; (rw [awH_new] at hu2); have rc2 := hu2.cellc C0.out; have rf2 := (hu2.frozen (World.block_lt_of_cell? _ _ C0.out)).trans F0.out; have hb2 : Below w2.heap.size w2 (w2.alloc (.cells #[.int .i64 1, .int .i64 1] 2)) := (Below.refl _ _).alloc (Nat.le_refl _) _; have rc3 := (hb2.cell (World.block_lt_of_cell? _ _ rc2)).trans rc2; have rf3 := (hb2.frozen (World.block_lt_of_cell? _ _ rc2)).trans rf2; have hL2 : Slc (w2.alloc (.cells #[.int .i64 1, .int .i64 1] 2)) (some ⟨w2.heap.size, 0, none⟩) 2 awL1 := (by intro i hi; refine ⟨_, _, rfl, ?_⟩; obtain rfl | rfl : i = 0 ∨ i = 1 := (by omega); simp [go_sem, awL1]; simp [go_sem, awL1]); have N2 := Lib.hid (with_any _ _ (newF 1 awL0) _ _ 2 awL1 _ rc3 rf3 hL2); have C3 := Lib.hid rc3; have F3 := Lib.hid rf3; have HU2 := Lib.hid hu2; have HB2 := Lib.hid hb2; clear hu2 rc2 rf2 hb2 rc3 rf3 hL2) | (go_at_call 24; (refine N2.out.mono ?_); rintro e w3 ⟨rfl, hu3⟩; (rw [aw_step.2] at hu3); have hu3' : Upd ⟨w.heap.size, 0, none⟩ false (w2.alloc (.cells #[.int .i64 1, .int .i64 1] 2)) w3 := hu3; have C4 := Lib.hid (hu3'.cellc C3.out); have F4 := Lib.hid ((hu3'.frozen (World.block_lt_of_cell? _ _ C3.out)).trans F3.out); have R3 : Blk (w3.alloc (.cells Try.zeroCells25 25)) w3.heap.size 25 300 (fun _ => 0) := (by rw [zcov]; exact Blk.new _ _ _ _); have HU3 := Lib.hid hu3'; clear hu3 hu3') | (refine wpList_store_row rfl 25 _ _ rfl w3.heap.size _ rfl rfl 25 _ R3 (icov.trans (by rw [arrv_size])) (by rw [arrv_size, arrv_size]) (oneCell_arrv _ _) ?_))
  obtain ⟨w4, hw4⟩ : ∃ x, x = ((w3.alloc (.cells Try.zeroCells25 25)).setRow w3.heap.size (arrv 300 awF)) := ⟨_, rfl⟩
  rw [show ((w3.alloc (.cells Try.zeroCells25 25)).setRow w3.heap.size (arrv 300 (stepF (newF 1 awL0) oneF (copyF 2 awL1)))) = w4 from hw4.symm]
  have M4 := Lib.hid (Blk.made zcov awF hw4)
  have C5 := Lib.hid ((M4.out.2.cell (World.block_lt_of_cell? _ _ C4.out)).trans C4.out)
  have F5 := Lib.hid ((M4.out.2.frozen (World.block_lt_of_cell? _ _ C4.out)).trans F4.out)
  clear hw4 R3
  go_upto_region 4 with (first | (go_at_call 26; (refine (one_any _).mono ?_); rintro e w5 ⟨rfl, hb5⟩; have HB5 := Lib.hid hb5; have R5 : Blk (w5.alloc (.cells Try.zeroCells27 27)) w5.heap.size 27 576 (fun _ => 0) := (by rw [zmat]; exact Blk.new _ _ _ _); clear hb5) | (refine wpList_store_row rfl 27 _ _ rfl w5.heap.size _ rfl rfl 27 _ R5 (imat.trans (by rw [arrv_size])) (by rw [arrv_size, arrv_size]) (oneCell_arrv _ _) ?_))
  obtain ⟨w6, hw6⟩ : ∃ x, x = ((w5.alloc (.cells Try.zeroCells27 27)).setRow w5.heap.size (arrv 576 oneF)) := ⟨_, rfl⟩
  rw [← hw6]
  have M6 := Lib.hid (Blk.made zmat oneF hw6)
  have B6 := Lib.hid (Below.after HB5.out M6.out.2)
  have C6 := Lib.hid ((B6.out.cell (World.block_lt_of_cell? _ _ C5.out)).trans C5.out)
  have F6 := Lib.hid ((B6.out.frozen (World.block_lt_of_cell? _ _ C5.out)).trans F5.out)
  have L2 := (M4.out.1.below B6.out)
  have L3 := M6.out.1
  clear hw6 R5
  have N6 : Hid (Calls Try.prog 7 #[.pointer (some ⟨w.heap.size, 0, none⟩), .agg (arrv 300 awF), .agg (arrv 576 oneF), .agg #[.int .i64 0, .int .i64 0, .int .i64 0, .int .i64 0, .int .i64 0, .int .i64 0, .int .i64 0, .int .i64 0, .int .i64 0, .int .i64 0, .int .i64 0, .int .i64 0, .int .i64 0, .int .i64 0, .int .i64 0, .int .i64 0, .int .i64 0, .int .i64 0, .int .i64 0, .int .i64 0, .int .i64 0, .int .i64 0, .int .i64 0, .int .i64 0]] w6 fun e w' => e = .returned (.agg (arrv 300 awF)) ∧ Upd ⟨w.heap.size, 0, none⟩ false w6 w') := by
    refine Lib.hid ?_
    rw [zcol]
    refine (step_any _ false awF oneF (fun _ => 0) w6 C6.out F6.out).mono ?_
    rintro e w' ⟨rfl, hu⟩
    refine ⟨by rw [arrv_congr aw_again.1], ?_⟩
    rw [aw_again.2] at hu
    exact hu
  go_upto_region 5 with (first | (refine wpList_load_row rfl 25 _ rfl w3.heap.size rfl 25 _ (0, 0) _ L2 Try.underlying25 rfl (icov.trans (by rw [arrv_size])) ?_) | (refine wpList_load_row rfl 27 _ rfl w5.heap.size rfl 27 _ (0, 0) _ L3 Try.underlying27 rfl (imat.trans (by rw [arrv_size])) ?_) | (go_at_call 7; (refine N6.out.mono ?_); rintro e w7 ⟨rfl, hu7⟩; have HU7 := Lib.hid hu7; have R7 : Blk (w7.alloc (.cells Try.zeroCells25 25)) w7.heap.size 25 300 (fun _ => 0) := (by rw [zcov]; exact Blk.new _ _ _ _); clear hu7) | (refine wpList_store_row rfl 25 _ _ rfl w7.heap.size _ rfl rfl 25 _ R7 (icov.trans (by rw [arrv_size])) (by rw [arrv_size, arrv_size]) (oneCell_arrv _ _) ?_))
  obtain ⟨w8, hw8⟩ : ∃ x, x = ((w7.alloc (.cells Try.zeroCells25 25)).setRow w7.heap.size (arrv 300 awF)) := ⟨_, rfl⟩
  rw [← hw8]
  have M8 := Lib.hid (Blk.made zcov awF hw8)
  have S6 := World.block_lt_of_cell? _ _ C6.out
  have L2' := Lib.hid ((L2.upd HU7.out (L2.flag C6.out)).below M8.out.2)
  have L3' := Lib.hid ((L3.upd HU7.out (L3.flag C6.out)).below M8.out.2)
  have C8 : w8.cell? ⟨w.heap.size, 0, none⟩ = some (.bool false) := by
    have := HU7.out.cellc C6.out
    exact (M8.out.2.cell (World.block_lt_of_cell? _ _ this)).trans this
  clear hw8 R7 L2 L3
  have L2 := L2'.out
  have L3 := L3'.out
  have L4 := M8.out.1
  have c0 := L2.cell (i := 276) (by omega)
  have c1 := L2.cell (i := 277) (by omega)
  have c2 := L2.cell (i := 278) (by omega)
  have c3 := L3.cell (i := 75) (by omega)
  have c4 := L3.cell (i := 1) (by omega)
  rw [show awF 276 = 17592186044417 from aw_at (i := 0) (by omega)] at c0
  rw [show awF 277 = 2 from aw_at (i := 1) (by omega)] at c1
  rw [show awF 278 = 1 from aw_at (i := 2) (by omega)] at c2
  rw [show oneF 75 = 1073741824 from rfl] at c3
  rw [show oneF 1 = 0 from rfl] at c4
  have hEq := Lib.hid (covB_self awF)
  refine wp_region_lit ?_
  refine wpList_val (v := ?_) rfl ?_ ?_
  rotate_left
  · (go_simp; (try (first | with_reducible rfl | (constructor <;> with_reducible rfl))))
  (try simp only [Act.put, List.setIfInBounds_toArray, List.set_cons_zero, List.set_cons_succ])
  refine wpList_val (v := ?_) rfl ?_ ?_
  rotate_left
  · (go_simp; (try (first | with_reducible rfl | (constructor <;> with_reducible rfl))))
  (try simp only [Act.put, List.setIfInBounds_toArray, List.set_cons_zero, List.set_cons_succ])
  refine wpList_val (v := ?_) rfl ?_ ?_
  rotate_left
  · (go_simp; (try (first | with_reducible rfl | (constructor <;> with_reducible rfl))))
  (try simp only [Act.put, List.setIfInBounds_toArray, List.set_cons_zero, List.set_cons_succ])
  refine wpList_val (v := ?_) rfl ?_ ?_
  rotate_left
  · (go_simp; (try (first | with_reducible rfl | (constructor <;> with_reducible rfl))))
  (try simp only [Act.put, List.setIfInBounds_toArray, List.set_cons_zero, List.set_cons_succ])
  refine wpList_val (v := ?_) rfl ?_ ?_
  rotate_left
  · (go_simp; (try (first | with_reducible rfl | (constructor <;> with_reducible rfl))))
  (try simp only [Act.put, List.setIfInBounds_toArray, List.set_cons_zero, List.set_cons_succ])
  first | (refine wpList_val (v := ?_) (by rfl) ?_ ?_; rotate_left; focus ((go_simp; (try (first | with_reducible rfl | (constructor <;> with_reducible rfl)))))) | refine wpList_skip (by rfl) ?_
  (try simp only [Act.put, List.setIfInBounds_toArray, List.set_cons_zero, List.set_cons_succ])
  first | (refine wpList_val (v := ?_) (by rfl) ?_ ?_; rotate_left; focus ((go_simp; (try (first | with_reducible rfl | (constructor <;> with_reducible rfl)))))) | refine wpList_skip (by rfl) ?_
  (try simp only [Act.put, List.setIfInBounds_toArray, List.set_cons_zero, List.set_cons_succ])
  first | (refine wpList_val (v := ?_) (by rfl) ?_ ?_; rotate_left; focus ((go_simp; (try (first | with_reducible rfl | (constructor <;> with_reducible rfl)))))) | refine wpList_skip (by rfl) ?_
  (try simp only [Act.put, List.setIfInBounds_toArray, List.set_cons_zero, List.set_cons_succ])
  first | (refine wpList_val (v := ?_) (by rfl) ?_ ?_; rotate_left; focus ((go_simp; (try (first | with_reducible rfl | (constructor <;> with_reducible rfl)))))) | refine wpList_skip (by rfl) ?_
  (try simp only [Act.put, List.setIfInBounds_toArray, List.set_cons_zero, List.set_cons_succ])
  refine wpList_val (v := ?_) rfl ?_ ?_
  rotate_left
  · (go_simp; (try (first | with_reducible rfl | (constructor <;> with_reducible rfl))))
  (try simp only [Act.put, List.setIfInBounds_toArray, List.set_cons_zero, List.set_cons_succ])
  refine wpList_val (v := ?_) rfl ?_ ?_
  rotate_left
  · (go_simp; (try (first | with_reducible rfl | (constructor <;> with_reducible rfl))))
  (try simp only [Act.put, List.setIfInBounds_toArray, List.set_cons_zero, List.set_cons_succ])
  first | (refine wpList_val (v := ?_) (by rfl) ?_ ?_; rotate_left; focus ((go_simp; (try (first | with_reducible rfl | (constructor <;> with_reducible rfl)))))) | refine wpList_skip (by rfl) ?_
  (try simp only [Act.put, List.setIfInBounds_toArray, List.set_cons_zero, List.set_cons_succ])
  first | (refine wpList_val (v := ?_) (by rfl) ?_ ?_; rotate_left; focus ((go_simp; (try (first | with_reducible rfl | (constructor <;> with_reducible rfl)))))) | refine wpList_skip (by rfl) ?_
  (try simp only [Act.put, List.setIfInBounds_toArray, List.set_cons_zero, List.set_cons_succ])
  first | (refine wpList_val (v := ?_) (by rfl) ?_ ?_; rotate_left; focus ((go_simp; (try (first | with_reducible rfl | (constructor <;> with_reducible rfl)))))) | refine wpList_skip (by rfl) ?_
  (try simp only [Act.put, List.setIfInBounds_toArray, List.set_cons_zero, List.set_cons_succ])
  first | (refine wpList_val (v := ?_) (by rfl) ?_ ?_; rotate_left; focus ((go_simp; (try (first | with_reducible rfl | (constructor <;> with_reducible rfl)))))) | refine wpList_skip (by rfl) ?_
  (try simp only [Act.put, List.setIfInBounds_toArray, List.set_cons_zero, List.set_cons_succ])
  refine wpList_val (v := ?_) rfl ?_ ?_
  rotate_left
  · (go_simp; (try (first | with_reducible rfl | (constructor <;> with_reducible rfl))))
  (try simp only [Act.put, List.setIfInBounds_toArray, List.set_cons_zero, List.set_cons_succ])
  refine wpList_val (v := ?_) rfl ?_ ?_
  rotate_left
  · (go_simp; (try (first | with_reducible rfl | (constructor <;> with_reducible rfl))))
  (try simp only [Act.put, List.setIfInBounds_toArray, List.set_cons_zero, List.set_cons_succ])
  first | (refine wpList_val (v := ?_) (by rfl) ?_ ?_; rotate_left; focus ((go_simp; (try (first | with_reducible rfl | (constructor <;> with_reducible rfl)))))) | refine wpList_skip (by rfl) ?_
  (try simp only [Act.put, List.setIfInBounds_toArray, List.set_cons_zero, List.set_cons_succ])
  first | (refine wpList_val (v := ?_) (by rfl) ?_ ?_; rotate_left; focus ((go_simp; (try (first | with_reducible rfl | (constructor <;> with_reducible rfl)))))) | refine wpList_skip (by rfl) ?_
  (try simp only [Act.put, List.setIfInBounds_toArray, List.set_cons_zero, List.set_cons_succ])
  first | (refine wpList_val (v := ?_) (by rfl) ?_ ?_; rotate_left; focus ((go_simp; (try (first | with_reducible rfl | (constructor <;> with_reducible rfl)))))) | refine wpList_skip (by rfl) ?_
  (try simp only [Act.put, List.setIfInBounds_toArray, List.set_cons_zero, List.set_cons_succ])
  first | (refine wpList_val (v := ?_) (by rfl) ?_ ?_; rotate_left; focus ((go_simp; (try (first | with_reducible rfl | (constructor <;> with_reducible rfl)))))) | refine wpList_skip (by rfl) ?_
  (try simp only [Act.put, List.setIfInBounds_toArray, List.set_cons_zero, List.set_cons_succ])
  refine wpList_val (v := ?_) rfl ?_ ?_
  rotate_left
  · (go_simp; (try (first | with_reducible rfl | (constructor <;> with_reducible rfl))))
  (try simp only [Act.put, List.setIfInBounds_toArray, List.set_cons_zero, List.set_cons_succ])
  refine wpList_val (v := ?_) rfl ?_ ?_
  rotate_left
  · (go_simp; (try (first | with_reducible rfl | (constructor <;> with_reducible rfl))))
  (try simp only [Act.put, List.setIfInBounds_toArray, List.set_cons_zero, List.set_cons_succ])
  first | (refine wpList_val (v := ?_) (by rfl) ?_ ?_; rotate_left; focus ((go_simp; (try (first | with_reducible rfl | (constructor <;> with_reducible rfl)))))) | refine wpList_skip (by rfl) ?_
  (try simp only [Act.put, List.setIfInBounds_toArray, List.set_cons_zero, List.set_cons_succ])
  first | (refine wpList_val (v := ?_) (by rfl) ?_ ?_; rotate_left; focus ((go_simp; (try (first | with_reducible rfl | (constructor <;> with_reducible rfl)))))) | refine wpList_skip (by rfl) ?_
  (try simp only [Act.put, List.setIfInBounds_toArray, List.set_cons_zero, List.set_cons_succ])
  first | (refine wpList_val (v := ?_) (by rfl) ?_ ?_; rotate_left; focus ((go_simp; (try (first | with_reducible rfl | (constructor <;> with_reducible rfl)))))) | refine wpList_skip (by rfl) ?_
  (try simp only [Act.put, List.setIfInBounds_toArray, List.set_cons_zero, List.set_cons_succ])
  first | (refine wpList_val (v := ?_) (by rfl) ?_ ?_; rotate_left; focus ((go_simp; (try (first | with_reducible rfl | (constructor <;> with_reducible rfl)))))) | refine wpList_skip (by rfl) ?_
  (try simp only [Act.put, List.setIfInBounds_toArray, List.set_cons_zero, List.set_cons_succ])
  refine wpList_val (v := ?_) rfl ?_ ?_
  rotate_left
  · (go_simp; (try (first | with_reducible rfl | (constructor <;> with_reducible rfl))))
  (try simp only [Act.put, List.setIfInBounds_toArray, List.set_cons_zero, List.set_cons_succ])
  refine wpList_val (v := ?_) rfl ?_ ?_
  rotate_left
  · (go_simp; (try (first | with_reducible rfl | (constructor <;> with_reducible rfl))))
  (try simp only [Act.put, List.setIfInBounds_toArray, List.set_cons_zero, List.set_cons_succ])
  first | (refine wpList_val (v := ?_) (by rfl) ?_ ?_; rotate_left; focus (refine Eq.trans (run_load_row 25 (.tmp 4) (by rfl) w7.heap.size (by rfl) _ _ _ _ L4 Try.underlying25 rfl (icov.trans (by rw [arrv_size]))) ?_; with_reducible rfl)) | refine wpList_skip (by rfl) ?_
  (try simp only [Act.put, List.setIfInBounds_toArray, List.set_cons_zero, List.set_cons_succ])
  first | (refine wpList_val (v := ?_) (by rfl) ?_ ?_; rotate_left; focus (refine Eq.trans (run_load_row 25 (.tmp 2) (by rfl) w3.heap.size (by rfl) _ _ _ _ L2 Try.underlying25 rfl (icov.trans (by rw [arrv_size]))) ?_; with_reducible rfl)) | refine wpList_skip (by rfl) ?_
  (try simp only [Act.put, List.setIfInBounds_toArray, List.set_cons_zero, List.set_cons_succ])
  first | (refine wpList_val (v := ?_) (by rfl) ?_ ?_; rotate_left; focus (refine Eq.trans (run_op_eqlCov (.tmp 48) (.tmp 49) (by rfl) (by rfl) (by rfl) hEq.out) ?_; with_reducible rfl)) | refine wpList_skip (by rfl) ?_
  (try simp only [Act.put, List.setIfInBounds_toArray, List.set_cons_zero, List.set_cons_succ])
  refine wpList_val (v := ?_) rfl ?_ ?_
  rotate_left
  · (go_simp; (try (first | with_reducible rfl | (constructor <;> with_reducible rfl))))
  (try simp only [Act.put, List.setIfInBounds_toArray, List.set_cons_zero, List.set_cons_succ])
  refine wpList_val (v := ?_) rfl ?_ ?_
  rotate_left
  · (go_simp; (try (first | with_reducible rfl | (constructor <;> with_reducible rfl))))
  (try simp only [Act.put, List.setIfInBounds_toArray, List.set_cons_zero, List.set_cons_succ])
  first | (refine wpList_val (v := ?_) (by rfl) ?_ ?_; rotate_left; focus ((go_simp; (try (first | with_reducible rfl | (constructor <;> with_reducible rfl)))))) | refine wpList_skip (by rfl) ?_
  (try simp only [Act.put, List.setIfInBounds_toArray, List.set_cons_zero, List.set_cons_succ])
  first | (refine wpList_val (v := ?_) (by rfl) ?_ ?_; rotate_left; focus ((go_simp; (try (first | with_reducible rfl | (constructor <;> with_reducible rfl)))))) | refine wpList_skip (by rfl) ?_
  (try simp only [Act.put, List.setIfInBounds_toArray, List.set_cons_zero, List.set_cons_succ])
  first | (refine wpList_val (v := ?_) (by rfl) ?_ ?_; rotate_left; focus ((go_simp; (try (first | with_reducible rfl | (constructor <;> with_reducible rfl)))))) | refine wpList_skip (by rfl) ?_
  (try simp only [Act.put, List.setIfInBounds_toArray, List.set_cons_zero, List.set_cons_succ])
  first | (refine wpList_val (v := ?_) (by rfl) ?_ ?_; rotate_left; focus ((go_simp; (try (first | with_reducible rfl | (constructor <;> with_reducible rfl)))))) | refine wpList_skip (by rfl) ?_
  (try simp only [Act.put, List.setIfInBounds_toArray, List.set_cons_zero, List.set_cons_succ])
  first | (refine wpList_val (v := ?_) (by rfl) ?_ ?_; rotate_left; focus ((go_simp; (try (first | with_reducible rfl | (constructor <;> with_reducible rfl)))))) | refine wpList_skip (by rfl) ?_
  (try simp only [Act.put, List.setIfInBounds_toArray, List.set_cons_zero, List.set_cons_succ])
  refine wpList_val (v := ?_) rfl ?_ ?_
  rotate_left
  · (go_simp; (try (first | with_reducible rfl | (constructor <;> with_reducible rfl))))
  (try simp only [Act.put, List.setIfInBounds_toArray, List.set_cons_zero, List.set_cons_succ])
  refine wpList_val (v := ?_) rfl ?_ ?_
  rotate_left
  · (go_simp; (try (first | with_reducible rfl | (constructor <;> with_reducible rfl))))
  (try simp only [Act.put, List.setIfInBounds_toArray, List.set_cons_zero, List.set_cons_succ])
  refine wpList_nil ?_
  go_wp2_with fail
  go_ret
  refine ⟨rfl, ?_⟩
  have b1 := Below.after B0.out (Below.refl _ _)
  have b2 := own_upd b1 (Nat.le_refl _) HU2.out
  have b3 := own_upd (Below.after b2 HB2.out) (Nat.le_refl _) HU3.out
  have b4 := own_upd (Below.after (Below.after b3 M4.out.2) B6.out) (Nat.le_refl _) HU7.out
  exact Below.after b4 M8.out.2
end Go.Proofs.Ytokcdlcmamdloaa
/- The walk of the law ThorntonSays. -/
namespace Go.Proofs.Ytokcdlcmamdloaa
open Go.RowKit
set_option maxRecDepth 100000
theorem orB_congr' {p q : Nat → Bool} : ∀ {n : Nat}, (∀ i, i < n → p i = q i) → orB p n = orB q n
  | 0, _ => rfl
  | n + 1, h => by simp only [orB]; rw [orB_congr' fun i hi => h i (by omega), h n (by omega)]
/-- The flags are the same, told in another order. -/
theorem rs_flags (f F q : Nat → Int) : (condH f || orB (fun k => qH (q k)) 24 || orB (rrH (condF f) F (fS F 24 0)) 24 || HN (stepW f F) (stepE f q) 24) = stepH f F q := by
  have e1 : loop1H q F 24 = (orB (fun k => qH (q k)) 24 || orB (fun i => orB (fun k => satH (F (i * 24 + k))) 24) 24) := by
    unfold loop1H; rw [orB_or]; rfl
  have e2 : orB (rrH (condF f) F (fS F 24 0)) 24 = (orB (fun i => orB (fun k => satH (F (i * 24 + k))) 24) 24 || rowsH (condF f) (fS F 24 0)) := by
    unfold rrH rowsH rwH
    rw [orB_or]
    exact congrArg _ (orB_swap _ 24 24)
  unfold stepH
  rw [e1, e2]
  simp only [Bool.or_assoc]
/-- The reference's Step, as the program's. -/
theorem rstep_all (c : Addr) (h : Bool) (f F q : Nat → Int) (fb TF : Nat) (w : World) (hc : w.cell? c = some (.bool h)) (hf : w.frozen? c = false) (hFB : Blk w fb TF 576 F) :
    Calls Try.prog 8 #[.pointer (some c), .agg (arrv 300 f), .pointer (some ⟨fb, 0, none⟩), .agg (arrv 24 q)] w fun e w' =>
      e = .returned (.agg (arrv 300 (stepF f F q))) ∧ Upd c (h || stepH f F q) w w' := by
  refine (rstep_any c h f F q fb TF w hc hf hFB).mono ?_
  rintro e w' ⟨H, rfl, hu, hH⟩
  rw [rs_flags] at hH
  rw [hH] at hu
  exact ⟨rfl, hu⟩
theorem ig24 : (Try.prog.info? 26).map (·.size) = some 576 := by kernel_rfl
set_option maxHeartbeats 8000000 in
theorem says10_walk (f F q : Nat → Int) (w : World) :
    Calls Try.prog 3 #[.agg (arrv 300 f), .agg (arrv 576 F), .agg (arrv 24 q)] w fun e w' => e = .returned (.bool true) ∧ Below w.heap.size w w' := by
  go_enter Try.func3, Try.ntmps3
  go_upto_region 3 with (go_at_call 6; (refine (awake_any _).mono ?_); rintro e w1 ⟨rfl, hb1⟩; have HB1 := Lib.hid hb1; clear hb1)
  have A0 : Below w.heap.size w (((w.alloc (.cells (arrv 300 f) 25)).alloc (.cells (arrv 576 F) 27)).alloc (.cells (arrv 24 q) 23)) := by (repeat (first | with_reducible exact Below.refl _ _ | with_reducible apply Below.drew | (with_reducible refine below_drewN ?_ _) | (with_reducible refine Below.alloc ?_ (by (try simp) <;> omega) _) | (with_reducible refine Below.setCell ?_ (by (try simp) <;> omega) _)))
  have B0 : Blk (((w.alloc (.cells (arrv 300 f) 25)).alloc (.cells (arrv 576 F) 27)).alloc (.cells (arrv 24 q) 23)) w.heap.size 25 300 f := ((Blk.new w _ _ _).alloc _).alloc _
  have B1 : Blk (((w.alloc (.cells (arrv 300 f) 25)).alloc (.cells (arrv 576 F) 27)).alloc (.cells (arrv 24 q) 23)) (w.heap.size + 1) 27 576 F := (Blk.new1 w _ _ _ _).alloc _
  have B2 := blk_new2 w (.cells (arrv 300 f) 25) (.cells (arrv 576 F) 27) 23 24 q
  have hz1 : w.heap.size + 2 < w1.heap.size := by have := HB1.out.size; simp at this; omega
  obtain ⟨bc, hbc⟩ : ∃ x, w1.heap.size = x := ⟨_, rfl⟩
  have X : ∃ w2, w2 = (w1.alloc (.cells #[.bool false] 31)).alloc (.cells #[.bool false] 35) := ⟨_, rfl⟩
  obtain ⟨w2, hw2⟩ := X
  have B12 : Below w1.heap.size w1 w2 := by rw [hw2]; (repeat (first | with_reducible exact Below.refl _ _ | with_reducible apply Below.drew | (with_reducible refine below_drewN ?_ _) | (with_reducible refine Below.alloc ?_ (by (try simp) <;> omega) _) | (with_reducible refine Below.setCell ?_ (by (try simp) <;> omega) _)))
  have A2 := Lib.hid (Below.trans (Below.after A0 HB1.out) (B12.mono (by omega)))
  have P0 := Lib.hid ((B0.below HB1.out).below B12)
  have P1 := Lib.hid ((B1.below HB1.out).below B12)
  have P2 := Lib.hid ((B2.below HB1.out).below B12)
  have kc : w2.cell? ⟨bc, 0, none⟩ = some (.bool false) ∧ w2.frozen? ⟨bc, 0, none⟩ = false ∧ w2.cell? ⟨bc + 1, 0, none⟩ = some (.bool false) ∧ w2.frozen? ⟨bc + 1, 0, none⟩ = false ∧ w2.heap.size = bc + 2 := by
    rw [hw2, ← hbc]; refine ⟨by simp [go_sem], by simp [go_sem], by simp [go_sem], by simp [go_sem], by simp⟩
  have KC := Lib.hid kc
  clear A0 B0 B1 B2 HB1 kc B12
  go_upto_region 5 with fail
  rw [← hw2]
  rw [hbc] at hz1
  clear hw2 hbc w1
  have L1 := P1.out
  have R5 : Blk (w2.alloc (.cells Try.zeroCells26 26)) w2.heap.size 26 576 (fun _ => 0) := by rw [zmat2]; exact Blk.new _ _ _ _
  go_upto_region 6 with (first | (refine wpList_load_row rfl 27 _ rfl (w.heap.size + 1) rfl 27 _ (0, 0) _ (L1) Try.underlying27 rfl (imat.trans (by rw [arrv_size])) ?_) | (refine wpList_store_row rfl 26 _ _ rfl (w2.heap.size) _ rfl rfl 26 _ (R5) (ig24.trans (by rw [arrv_size])) (by rw [arrv_size, arrv_size]) (oneCell_arrv _ _) ?_))
  obtain ⟨w3, hw3⟩ : ∃ x, x = (w2.alloc (.cells Try.zeroCells26 26)).setRow w2.heap.size (arrv 576 F) := ⟨_, rfl⟩
  rw [← hw3]
  have hs2 := KC.out.2.2.2.2
  have G3 : Blk w3 (bc + 2) 26 576 F := by rw [hw3, ← hs2]; exact R5.setRow _
  have B23 : Below w2.heap.size w2 w3 := by rw [hw3]; exact below_row ((Below.refl _ _).alloc (Nat.le_refl _) _) (Nat.le_refl _) _
  have A3 := Lib.hid (Below.trans A2.out (B23.mono (by have := A2.out.size; omega)))
  have p0 := P0.out.below B23
  have p1 := P1.out.below B23
  have p2 := P2.out.below B23
  have k0 : w3.cell? ⟨bc, 0, none⟩ = some (.bool false) := (B23.cell (by simp; omega)).trans KC.out.1
  have k1 : w3.frozen? ⟨bc, 0, none⟩ = false := (B23.frozen (by simp; omega)).trans KC.out.2.1
  have k2 : w3.cell? ⟨bc + 1, 0, none⟩ = some (.bool false) := (B23.cell (by simp; omega)).trans KC.out.2.2.1
  have k3 : w3.frozen? ⟨bc + 1, 0, none⟩ = false := (B23.frozen (by simp; omega)).trans KC.out.2.2.2.1
  rw [hs2]
  have hs3 := G3.lt
  clear hw3 R5 B23 A2 P0 P1 P2 L1 KC hs2 w2
  have ST := Lib.hid (step_any ⟨bc, 0, none⟩ false f F q w3.drew k0 k1)
  have RT := Lib.hid (fun (x : World) (a1 : x.cell? ⟨bc + 1, 0, none⟩ = some (.bool false)) (a2 : x.frozen? ⟨bc + 1, 0, none⟩ = false) (a3 : Blk x (bc + 2) 26 576 F) => rstep_all ⟨bc + 1, 0, none⟩ false f F q (bc + 2) _ x a1 a2 a3)
  simp only [Bool.false_or] at ST RT
  obtain ⟨SF, hSF⟩ : ∃ x, stepF f F q = x := ⟨_, rfl⟩
  obtain ⟨SH, hSH⟩ : ∃ x, stepH f F q = x := ⟨_, rfl⟩
  rw [hSF, hSH] at ST
  rw [hSF, hSH] at RT
  clear hSF hSH
  have m0 : w.heap.size ≠ (⟨bc, 0, none⟩ : Addr).block := by simp; omega
  have m1 : w.heap.size + 1 ≠ (⟨bc, 0, none⟩ : Addr).block := by simp; omega
  have m2 : w.heap.size + 1 + 1 ≠ (⟨bc, 0, none⟩ : Addr).block := by simp; omega
  refine wp_region_M (fun w' => Blk w' w.heap.size 25 300 f ∧ Blk w' (w.heap.size + 1) 27 576 F ∧ Blk w' (w.heap.size + 1 + 1) 23 24 q) 8 (by kernel_rfl) ?_ (fun hHeld => ?_)
  · exact ⟨p0, p1, p2⟩
  refine wpAnyM_takeW 0 (v := ?_) rfl (by kernel_rfl) (fun _ _ _ h => h) (Or.inl ⟨by rfl, ?_⟩) (.inr (by assumption)) ?_
  rotate_left
  · (intro wx hSw; (try dsimp only at hSw); go_simp; (try with_reducible rfl))
  (try simp only [Act.put, List.setIfInBounds_toArray, List.set_cons_zero, List.set_cons_succ])
  refine wpAnyM_take2 4 1 (v := ?_) rfl (by kernel_rfl) (fun _ _ _ h => h) (Or.inl ⟨by rfl, ?_⟩) (by assumption) ?_
  rotate_left
  · (intro wz hSw; refine Eq.trans (run_load_row 25 (.tmp 3) (by rfl) (w.heap.size) (by rfl) _ _ _ _ (hSw.1) Try.underlying25 rfl (icov.trans (by rw [arrv_size]))) ?_; with_reducible rfl)
  (try simp only [Act.put, List.setIfInBounds_toArray, List.set_cons_zero, List.set_cons_succ])
  refine wpAnyM_take2 4 2 (v := ?_) rfl (by kernel_rfl) (fun _ _ _ h => h) (Or.inl ⟨by rfl, ?_⟩) (by assumption) ?_
  rotate_left
  · (intro wz hSw; refine Eq.trans (run_load_row 27 (.tmp 4) (by rfl) (w.heap.size + 1) (by rfl) _ _ _ _ (hSw.2.1) Try.underlying27 rfl (imat.trans (by rw [arrv_size]))) ?_; with_reducible rfl)
  (try simp only [Act.put, List.setIfInBounds_toArray, List.set_cons_zero, List.set_cons_succ])
  refine wpAnyM_take2 4 3 (v := ?_) rfl (by kernel_rfl) (fun _ _ _ h => h) (Or.inl ⟨by rfl, ?_⟩) (by assumption) ?_
  rotate_left
  · (intro wz hSw; refine Eq.trans (run_load_row 23 (.tmp 5) (by rfl) (w.heap.size + 1 + 1) (by rfl) _ _ _ _ (hSw.2.2) Try.underlying23 rfl (icol.trans (by rw [arrv_size]))) ?_; with_reducible rfl)
  (try simp only [Act.put, List.setIfInBounds_toArray, List.set_cons_zero, List.set_cons_succ])
  refine wpAnyM_take 5 (v := ?_) rfl (by kernel_rfl) (fun _ _ _ h => h) (Or.inl ⟨by rfl, ?_⟩) (by assumption) ?_
  rotate_left
  · (intro wx hSw; (try dsimp only at hSw); go_simp; (try with_reducible rfl))
  (try simp only [Act.put, List.setIfInBounds_toArray, List.set_cons_zero, List.set_cons_succ])
  refine wpAnyM_take 6 (v := ?_) rfl (by kernel_rfl) (fun _ _ _ h => h) (Or.inl ⟨by rfl, ?_⟩) (by assumption) ?_
  rotate_left
  · (intro wz hSw; refine Eq.trans (run_load_row 25 (.tmp 3) (by rfl) (w.heap.size) (by rfl) _ _ _ _ (hSw.1) Try.underlying25 rfl (icov.trans (by rw [arrv_size]))) ?_; with_reducible rfl)
  (try simp only [Act.put, List.setIfInBounds_toArray, List.set_cons_zero, List.set_cons_succ])
  refine wpAnyM_take 7 (v := ?_) rfl (by kernel_rfl) (fun _ _ _ h => h) (Or.inl ⟨by rfl, ?_⟩) (by assumption) ?_
  rotate_left
  · (intro wz hSw; refine Eq.trans (run_load_row 23 (.tmp 5) (by rfl) (w.heap.size + 1 + 1) (by rfl) _ _ _ _ (hSw.2.2) Try.underlying23 rfl (icol.trans (by rw [arrv_size]))) ?_; with_reducible rfl)
  (try simp only [Act.put, List.setIfInBounds_toArray, List.set_cons_zero, List.set_cons_succ])
  refine wpAnyM_oneS 4 rfl (by kernel_rfl) (fun K hK => ?_)
  go_simp
  (refine ST.out.mono ?_); rintro e w4 ⟨rfl, hu4⟩; have S4 := (show _ ∧ _ ∧ _ from ⟨p0.drew.upd hu4 m0, p1.drew.upd hu4 m1, p2.drew.upd hu4 m2⟩); have U4 := Lib.hid hu4; have c4 := hu4.cellc k0; have c5 := (hu4.cell (a := ⟨bc + 1, 0, none⟩) (by simp; omega) (by simp)).trans k2; have c6 := (hu4.frozen (a := ⟨bc + 1, 0, none⟩) (by simp; omega)).trans k3; have G4 := G3.drew.upd hu4 (by simp); clear hu4
  (try dsimp only)
  (try simp only [Act.put, List.setIfInBounds_toArray, List.set_cons_zero, List.set_cons_succ])
  clear hHeld
  refine hK.out _ _ ?_ (fun hHeld => ?_)
  · exact S4
  clear hK K
  (try simp only [Act.put, List.setIfInBounds_toArray, List.set_cons_zero, List.set_cons_succ])
  refine wpAnyM_one 8 rfl (by kernel_rfl) (fun K hK => ?_)
  go_simp
  (refine (RT.out _ c5 c6 G4).mono ?_); rintro e w5 ⟨rfl, hu5⟩; have d4 := hu5.cellc c5; have d5 := (hu5.cell (a := ⟨bc, 0, none⟩) (by have := World.block_lt_of_cell? _ _ c4; exact this) (by simp)).trans c4; have U5 := Lib.hid hu5; clear hu5
  (try dsimp only)
  (try simp only [Act.put, List.setIfInBounds_toArray, List.set_cons_zero, List.set_cons_succ])
  refine hK.out _ _ (.inl (by kernel_rfl)) (fun _ => ?_)
  clear hK K
  (try simp only [Act.put, List.setIfInBounds_toArray, List.set_cons_zero, List.set_cons_succ])
  refine wpAnyM_switch (fun (w' : World) => w'.cell? ⟨bc, 0, none⟩ = some (.bool SH) ∧ w'.cell? ⟨bc + 1, 0, none⟩ = some (.bool SH)) 22 (by kernel_rfl) ?_ (fun hHeld => ?_)
  · exact ⟨d5, d4⟩
  refine wpAnyM_take 9 (v := ?_) rfl (by kernel_rfl) (fun _ _ _ h => h) (Or.inl ⟨by rfl, ?_⟩) (by assumption) ?_
  rotate_left
  · (intro wz hSw; refine Eq.trans (run_op_eqlCov (.tmp 21) (.tmp 25) (by rfl) (by rfl) (by rfl) (covB_self SF)) ?_; with_reducible rfl)
  (try simp only [Act.put, List.setIfInBounds_toArray, List.set_cons_zero, List.set_cons_succ])
  refine wpAnyM_take 10 (v := ?_) rfl (by kernel_rfl) (fun _ _ _ h => h) (Or.inl ⟨by rfl, ?_⟩) (by assumption) ?_
  rotate_left
  · (intro wx hSw; (try dsimp only at hSw); go_simp; (try with_reducible rfl))
  (try simp only [Act.put, List.setIfInBounds_toArray, List.set_cons_zero, List.set_cons_succ])
  first | (refine wpAnyM_take 11 (v := ?_) rfl (by kernel_rfl) (fun _ _ _ h => h) (Or.inl ⟨by rfl, ?_⟩) (by assumption) ?_; rotate_left; focus ((intro wx hSw; (try dsimp only at hSw); go_simp; (try with_reducible rfl)))) | (refine wpAnyM_take 11 rfl (by kernel_rfl) (fun _ _ _ h => h) (Or.inr ⟨by rfl, rfl⟩) (by assumption) ?_)
  (try simp only [Act.put, List.setIfInBounds_toArray, List.set_cons_zero, List.set_cons_succ])
  first | (refine wpAnyM_take 12 (v := ?_) rfl (by kernel_rfl) (fun _ _ _ h => h) (Or.inl ⟨by rfl, ?_⟩) (by assumption) ?_; rotate_left; focus ((intro wx hSw; (try dsimp only at hSw); go_simp; (try with_reducible rfl)))) | (refine wpAnyM_take 12 rfl (by kernel_rfl) (fun _ _ _ h => h) (Or.inr ⟨by rfl, rfl⟩) (by assumption) ?_)
  (try simp only [Act.put, List.setIfInBounds_toArray, List.set_cons_zero, List.set_cons_succ])
  first | (refine wpAnyM_take 13 (v := ?_) rfl (by kernel_rfl) (fun _ _ _ h => h) (Or.inl ⟨by rfl, ?_⟩) (by assumption) ?_; rotate_left; focus ((intro wx hSw; (try dsimp only at hSw); go_simp; (try with_reducible rfl)))) | (refine wpAnyM_take 13 rfl (by kernel_rfl) (fun _ _ _ h => h) (Or.inr ⟨by rfl, rfl⟩) (by assumption) ?_)
  (try simp only [Act.put, List.setIfInBounds_toArray, List.set_cons_zero, List.set_cons_succ])
  first | (refine wpAnyM_take 14 (v := ?_) rfl (by kernel_rfl) (fun _ _ _ h => h) (Or.inl ⟨by rfl, ?_⟩) (by assumption) ?_; rotate_left; focus ((intro wz hSw; obtain ⟨s1, s2⟩ := hSw; go_simp; (try with_reducible rfl)))) | (refine wpAnyM_take 14 rfl (by kernel_rfl) (fun _ _ _ h => h) (Or.inr ⟨by rfl, rfl⟩) (by assumption) ?_)
  (try simp only [Act.put, List.setIfInBounds_toArray, List.set_cons_zero, List.set_cons_succ])
  first | (refine wpAnyM_take 15 (v := ?_) rfl (by kernel_rfl) (fun _ _ _ h => h) (Or.inl ⟨by rfl, ?_⟩) (by assumption) ?_; rotate_left; focus ((intro wx hSw; (try dsimp only at hSw); go_simp; (try with_reducible rfl)))) | (refine wpAnyM_take 15 rfl (by kernel_rfl) (fun _ _ _ h => h) (Or.inr ⟨by rfl, rfl⟩) (by assumption) ?_)
  (try simp only [Act.put, List.setIfInBounds_toArray, List.set_cons_zero, List.set_cons_succ])
  first | (refine wpAnyM_take 16 (v := ?_) rfl (by kernel_rfl) (fun _ _ _ h => h) (Or.inl ⟨by rfl, ?_⟩) (by assumption) ?_; rotate_left; focus ((intro wx hSw; (try dsimp only at hSw); go_simp; (try with_reducible rfl)))) | (refine wpAnyM_take 16 rfl (by kernel_rfl) (fun _ _ _ h => h) (Or.inr ⟨by rfl, rfl⟩) (by assumption) ?_)
  (try simp only [Act.put, List.setIfInBounds_toArray, List.set_cons_zero, List.set_cons_succ])
  first | (refine wpAnyM_take 17 (v := ?_) rfl (by kernel_rfl) (fun _ _ _ h => h) (Or.inl ⟨by rfl, ?_⟩) (by assumption) ?_; rotate_left; focus ((intro wx hSw; (try dsimp only at hSw); go_simp; (try with_reducible rfl)))) | (refine wpAnyM_take 17 rfl (by kernel_rfl) (fun _ _ _ h => h) (Or.inr ⟨by rfl, rfl⟩) (by assumption) ?_)
  (try simp only [Act.put, List.setIfInBounds_toArray, List.set_cons_zero, List.set_cons_succ])
  first | (refine wpAnyM_take 18 (v := ?_) rfl (by kernel_rfl) (fun _ _ _ h => h) (Or.inl ⟨by rfl, ?_⟩) (by assumption) ?_; rotate_left; focus ((intro wx hSw; (try dsimp only at hSw); go_simp; (try with_reducible rfl)))) | (refine wpAnyM_take 18 rfl (by kernel_rfl) (fun _ _ _ h => h) (Or.inr ⟨by rfl, rfl⟩) (by assumption) ?_)
  (try simp only [Act.put, List.setIfInBounds_toArray, List.set_cons_zero, List.set_cons_succ])
  first | (refine wpAnyM_take 19 (v := ?_) rfl (by kernel_rfl) (fun _ _ _ h => h) (Or.inl ⟨by rfl, ?_⟩) (by assumption) ?_; rotate_left; focus ((intro wz hSw; obtain ⟨s1, s2⟩ := hSw; go_simp; (try with_reducible rfl)))) | (refine wpAnyM_take 19 rfl (by kernel_rfl) (fun _ _ _ h => h) (Or.inr ⟨by rfl, rfl⟩) (by assumption) ?_)
  (try simp only [Act.put, List.setIfInBounds_toArray, List.set_cons_zero, List.set_cons_succ])
  first | (refine wpAnyM_take 20 (v := ?_) rfl (by kernel_rfl) (fun _ _ _ h => h) (Or.inl ⟨by rfl, ?_⟩) (by assumption) ?_; rotate_left; focus ((intro wz hSw; go_simp; (try with_reducible rfl)))) | (refine wpAnyM_take 20 rfl (by kernel_rfl) (fun _ _ _ h => h) (Or.inr ⟨by rfl, rfl⟩) (by assumption) ?_)
  (try simp only [Act.put, List.setIfInBounds_toArray, List.set_cons_zero, List.set_cons_succ])
  refine wpAnyM_take 21 (v := ?_) rfl (by kernel_rfl) (fun _ _ _ h => h) (Or.inl ⟨by rfl, ?_⟩) (by assumption) ?_
  rotate_left
  · (intro wx hSw; (try dsimp only at hSw); go_simp; (try with_reducible rfl))
  (try simp only [Act.put, List.setIfInBounds_toArray, List.set_cons_zero, List.set_cons_succ])
  refine wpAnyM_one 22 rfl (by kernel_rfl) (fun K hK => ?_)
  go_simp
  refine hK.out _ _ (.inl (by kernel_rfl)) (fun _ => ?_)
  clear hK K
  (try simp only [Act.put, List.setIfInBounds_toArray, List.set_cons_zero, List.set_cons_succ])
  refine wpAnyM_switch (fun (w' : World) => w'.cell? ⟨bc, 0, none⟩ = some (.bool SH) ∧ w'.cell? ⟨bc + 1, 0, none⟩ = some (.bool SH)) 22 (by kernel_rfl) ?_ (fun hHeld => ?_)
  · exact ⟨d5, d4⟩
  refine wpAnyM_done (by kernel_rfl) ?_ _
  go_wp2_with fail
  go_ret
  exact ⟨rfl, own_upd (own_upd (Below.trans A3.out (Below.drew (Below.refl _ _))) (by simp; omega) U4.out) (by simp; omega) U5.out⟩
end Go.Proofs.Ytokcdlcmamdloaa
/- An empty slice built, and a whole slice appended to it: of int, of int64. -/
namespace Go.Proofs.Ytokcdlcmamdloaa
open Go.RowKit
open Go
set_option maxRecDepth 100000
theorem slc_src {w : World} {q : Option Addr} {n cp : Nat} {L : Nat → Int} (h : Slc w q n L) (hn : 0 < n) :
    ∃ a, q = some a ∧ ∀ j v, ((List.range n).map fun i => Value.int .i64 (L i))[j]? = some v → w.cell? (a.add j) = some v := by
  obtain ⟨b, o, rfl, _⟩ := h 0 hn
  refine ⟨⟨b, o, none⟩, rfl, fun j v hj => ?_⟩
  have hjn : j < n := by
    have := (List.getElem?_eq_some_iff.1 hj).1
    simpa using this
  obtain ⟨b', o', e, hc⟩ := h j hjn
  injection e with e
  injection e with e1 e2
  subst e1 e2
  rw [show ((List.range n).map fun i => Value.int .i64 (L i))[j]? = some (Value.int .i64 (L j)) from by simp [hjn]] at hj
  injection hj with hj
  rw [← hj]
  unfold Addr.add
  split
  · rename_i h0; subst h0; simpa using hc
  · exact hc
theorem run_appAll {P : Program} (t ty e : TypeId) (i : TypeInfo) (ht : P.underlying t = some (.slice e)) (hi : P.info? e = some i) (hz : i.zero = some (.int .i64 0)) (hs : i.size = 1) (hb : i.bytes = 8)
    (w : World) (b : Addr) (q : Option Addr) (n cp : Nat) (L : Nat → Int) (hL : Slc w q n L) (hn : n ≤ 1000000) :
    ∃ q' cap w', (Builtin.append_ #[t, t] ty #[.slice (some b) 0 0, .slice q n cp]).run P w = .ok (.slice q' n cap) w' ∧ Below w.heap.size w w' ∧ Slc w' q' n L := by
  rcases Nat.eq_zero_or_pos n with h0 | h0
  · subst h0
    refine ⟨some b, 0, w, ?_, Below.refl _ _, fun i hi => absurd hi (Nat.not_lt_zero _)⟩
    refine run_append_nothing w t t ty e i ht hi (some b) 0 0 (Nat.le_refl _) _ ⟨.inl ⟨e, ht⟩, fun w' => ?_, ?_, ?_, by simp, fun u hu => by cases hu⟩
    · simp [Builtin.lenOf]
    · cases q <;> simp [Builtin.firstCells, loadCells, loadCellsFrom]
    · cases q <;> simp [Builtin.firstCells, loadCells, loadCellsFrom]
  · obtain ⟨a, rfl, ha⟩ := slc_src (cp := cp) hL h0
    have hcap : Builtin.nextslicecap (0 + n) 0 * i.bytes ≤ 281474976710656 := by
      have := nextslicecap_le (need := 0 + n) (old := 0) (by omega)
      rw [hb]; omega
    have hr := run_append_grow w t ty e i _ ht hi hz b 0 0 [] (by simp) (fun j v hj => by cases hj) a n cp ((List.range n).map fun i => Value.int .i64 (L i)) (by simp [hs]) ha (by omega) (by omega) hcap
    rw [Nat.zero_add] at hr
    refine ⟨_, _, _, hr, ((Below.refl _ _).drew).alloc (Nat.le_refl _) _, ?_⟩
    intro j hj
    refine ⟨w.heap.size, 0, rfl, ?_⟩
    rw [Nat.zero_add]
    have hd : w.drew.heap = w.heap := rfl
    refine (cell_of_row _ w.heap.size j (([] : List Value).toArray ++ ((List.range n).map fun i => Value.int .i64 (L i)).toArray ++ Builtin.zeroCells (Value.int .i64 0).cells (grownCap w n 0 e - n)) e (0, 0) (by simp [World.alloc, hd])).trans ?_
    rw [Array.getElem?_append_left (by simp; omega)]
    simp [hj]
theorem info_i64g : (Try.prog.info? 2).map (fun i => (i.zero, i.size, i.bytes)) = some (some (.int .i64 0), 1, 8) := by kernel_rfl
theorem info_intg : (Try.prog.info? 3).map (fun i => (i.zero, i.size, i.bytes)) = some (some (.int .i64 0), 1, 8) := by kernel_rfl
theorem info_open {P : Program} {e : TypeId} (h : (P.info? e).map (fun i => (i.zero, i.size, i.bytes)) = some (some (.int .i64 0), 1, 8)) : ∃ i, P.info? e = some i ∧ i.zero = some (.int .i64 0) ∧ i.size = 1 ∧ i.bytes = 8 := by
  cases e : P.info? e with
  | none => rw [e] at h; cases h
  | some i => rw [e] at h; simp at h; exact ⟨i, rfl, h.1, h.2.1, h.2.2⟩
theorem wp_bsl0_int {o : Oper} {a : Act} {w : World} {K : Act → World → Prop} {Q : Exit → Act → World → Prop} (ho : o.op = .buildSlice 41 0 #[])
    (h : K (a.put o.dst (.slice (some ⟨w.heap.size, 0, none⟩) 0 0)) (w.alloc (.cells #[] 3))) : o.wp Try.prog a w K Q := by
  have hr : (Instr.buildSlice 41 0 #[]).run Try.prog w = .ok (.slice (some ⟨w.heap.size, 0, none⟩) 0 0) (w.alloc (.cells #[] 3)) := by
    obtain ⟨i, hi, hz, hs, hb⟩ := info_open info_intg
    unfold Instr.buildSlice
    simp [Sem.run_bind, run_underlying Try.underlying41, sizeOf, typeInfo, hi, hs, Instr.fill, newRow, newObj, go_sem]
    rfl
  unfold Oper.wp execOp
  simp only [ho, Sem.run_bind, List.map_toArray, List.map_nil, hr, Result.andThen_ok]
  exact h
theorem wp_appAll_int {o : Oper} {a : Act} {w : World} {K : Act → World → Prop} {Q : Exit → Act → World → Prop} (s x : Operand)
    (ho : o.op = .call { callee := .builtin .append, args := #[s, x], argTypes := #[41, 41] })
    (b : Addr) (q : Option Addr) (n cp : Nat) (L : Nat → Int) (hs : a.eval s = .slice (some b) 0 0) (hx : a.eval x = .slice q n cp) (hL : Slc w q n L) (hn : n ≤ 1000000)
    (h : ∀ q' cap w', Below w.heap.size w w' → Slc w' q' n L → K (a.put o.dst (.slice q' n cap)) w') : o.wp Try.prog a w K Q := by
  obtain ⟨i, hi, hz, hs', hb⟩ := info_open info_intg
  obtain ⟨q', cap, w', hr, h1, h2⟩ := run_appAll 41 o.type 3 i Try.underlying41 hi hz hs' hb w b q n cp L hL hn
  unfold Oper.wp execOp
  simp only [ho, resolve, invoke, builtin, Sem.run_bind, Sem.run_pure, Result.andThen_ok, List.map_toArray, List.map_cons, List.map_nil, hs, hx, hr]
  exact h q' cap w' h1 h2
theorem wp_bsl0_i64 {o : Oper} {a : Act} {w : World} {K : Act → World → Prop} {Q : Exit → Act → World → Prop} (ho : o.op = .buildSlice 52 0 #[])
    (h : K (a.put o.dst (.slice (some ⟨w.heap.size, 0, none⟩) 0 0)) (w.alloc (.cells #[] 2))) : o.wp Try.prog a w K Q := by
  have hr : (Instr.buildSlice 52 0 #[]).run Try.prog w = .ok (.slice (some ⟨w.heap.size, 0, none⟩) 0 0) (w.alloc (.cells #[] 2)) := by
    obtain ⟨i, hi, hz, hs, hb⟩ := info_open info_i64g
    unfold Instr.buildSlice
    simp [Sem.run_bind, run_underlying Try.underlying52, sizeOf, typeInfo, hi, hs, Instr.fill, newRow, newObj, go_sem]
    rfl
  unfold Oper.wp execOp
  simp only [ho, Sem.run_bind, List.map_toArray, List.map_nil, hr, Result.andThen_ok]
  exact h
theorem wp_appAll_i64 {o : Oper} {a : Act} {w : World} {K : Act → World → Prop} {Q : Exit → Act → World → Prop} (s x : Operand)
    (ho : o.op = .call { callee := .builtin .append, args := #[s, x], argTypes := #[52, 52] })
    (b : Addr) (q : Option Addr) (n cp : Nat) (L : Nat → Int) (hs : a.eval s = .slice (some b) 0 0) (hx : a.eval x = .slice q n cp) (hL : Slc w q n L) (hn : n ≤ 1000000)
    (h : ∀ q' cap w', Below w.heap.size w w' → Slc w' q' n L → K (a.put o.dst (.slice q' n cap)) w') : o.wp Try.prog a w K Q := by
  obtain ⟨i, hi, hz, hs', hb⟩ := info_open info_i64g
  obtain ⟨q', cap, w', hr, h1, h2⟩ := run_appAll 52 o.type 2 i Try.underlying52 hi hz hs' hb w b q n cp L hL hn
  unfold Oper.wp execOp
  simp only [ho, resolve, invoke, builtin, Sem.run_bind, Sem.run_pure, Result.andThen_ok, List.map_toArray, List.map_cons, List.map_nil, hs, hx, hr]
  exact h q' cap w' h1 h2
end Go.Proofs.Ytokcdlcmamdloaa
/- Arguments that are arrays of int64 (or structs of such): opened as numbers; a slice of int64 too. Of no one program. -/
namespace Go.Proofs.Ytokcdlcmamdloaa
open Go.RowKit Go.ChangeShapes
def AllInt (cs : List Value) : Prop := ∀ v, v ∈ cs → ∃ z, v = .int .i64 z ∧ (Lit.int .i64 z).wf = true
section
variable {H : Type} {enc : TypeId × Value → H} {P : Program} {w : World} {base : Nat} {spare : Nat → Bool} {held : Bool}
/-- What reads as t is int64 numbers alone. -/
def Ints (enc : TypeId × Value → H) (P : Program) (w : World) (base : Nat) (spare : Nat → Bool) (held : Bool) (t : TypeId) : Prop :=
  ∀ fuel cs x, DataW.trod enc P w base spare held fuel t cs = some x → AllInt cs ∧ x.2 = []
theorem ints_int {t : TypeId} (hu : P.underlying t = some (.int .i64)) : Ints enc P w base spare held t := by
  intro fuel cs x h
  obtain ⟨n, h1, h2, h3⟩ := DataW.trod_int hu h
  subst h1
  refine ⟨fun v hv => ?_, ?_⟩
  · rw [List.mem_singleton] at hv; exact ⟨n, hv, h3⟩
  · rw [h2]
theorem ints_array {t e : TypeId} {n m : Nat} (hu : P.underlying t = some (.array n e)) (hc : P.cellsOf t = n * m) (hm : P.cellsOf e = m) (he : Ints enc P w base spare held e) : Ints enc P w base spare held t := by
  intro fuel cs x h
  obtain ⟨xs, k, rfl, rfl, hl, hx, hi⟩ := DataW.trod_array hu h
  rw [hc] at hl
  rw [hm] at hi
  refine ⟨fun v hv => ?_, ?_⟩
  · obtain ⟨q, hq, rfl⟩ := List.getElem_of_mem hv
    have hm0 : 0 < m := by
      rcases Nat.eq_zero_or_pos m with h0 | h0
      · subst h0; omega
      · exact h0
    have hqm : q / m < n := by rw [Nat.div_lt_iff_lt_mul hm0]; omega
    have hh := hi (q / m) hqm
    rw [List.getElem?_eq_getElem (by omega)] at hh
    refine (he _ _ _ hh).1 _ ?_
    rw [List.mem_iff_getElem?]
    refine ⟨q % m, ?_⟩
    rw [List.getElem?_take_of_lt (Nat.mod_lt _ hm0), List.getElem?_drop, Nat.mul_comm, Nat.div_add_mod]
    exact List.getElem?_eq_getElem hq
  · show xs.flatMap (·.2) = []
    rw [List.flatMap_eq_nil_iff]
    intro y hy
    obtain ⟨q, hq, rfl⟩ := List.getElem_of_mem hy
    have hh := hi q (by omega)
    rw [List.getElem?_eq_getElem hq] at hh
    exact (he _ _ _ hh).2
/-- A struct of two: U's numbers, then D's. -/
theorem ints_struct2 {t : TypeId} {f0 f1 : Field} {a b : Nat} (hu : P.underlying t = some (.struct #[f0, f1])) (hc : P.cellsOf t = a + b) (o0 : f0.offset = 0) (o1 : f1.offset = a) (c0 : P.cellsOf f0.type = a) (c1 : P.cellsOf f1.type = b)
    (h0 : Ints enc P w base spare held f0.type) (h1 : Ints enc P w base spare held f1.type) : Ints enc P w base spare held t := by
  intro fuel cs x h
  obtain ⟨xs, k, rfl, rfl, hl, hx, hi⟩ := DataW.trod_struct hu h
  rw [hc] at hl
  have hx2 : xs.length = 2 := hx
  have g0 := hi 0 f0 rfl
  have g1 := hi 1 f1 rfl
  rw [List.getElem?_eq_getElem (by omega)] at g0 g1
  have r0 := h0 _ _ _ g0
  have r1 := h1 _ _ _ g1
  refine ⟨fun v hv => ?_, ?_⟩
  · obtain ⟨q, hq, rfl⟩ := List.getElem_of_mem hv
    by_cases hqa : q < a
    · refine r0.1 _ ?_
      rw [List.mem_iff_getElem?]
      refine ⟨q, ?_⟩
      rw [c0, o0, List.drop_zero, List.getElem?_take_of_lt hqa]
      exact List.getElem?_eq_getElem hq
    · refine r1.1 _ ?_
      rw [List.mem_iff_getElem?]
      refine ⟨q - a, ?_⟩
      rw [c1, o1, List.getElem?_take_of_lt (by omega), List.getElem?_drop, show a + (q - a) = q by omega]
      exact List.getElem?_eq_getElem hq
  · show xs.flatMap (·.2) = []
    rw [List.flatMap_eq_nil_iff]
    intro y hy
    obtain ⟨q, hq, rfl⟩ := List.getElem_of_mem hy
    obtain rfl | rfl : q = 0 ∨ q = 1 := by omega
    · exact r0.2
    · exact r1.2
/-- A struct whose fields cover its cells. -/
theorem ints_struct {t : TypeId} {fs : Array Field} {n : Nat} (hu : P.underlying t = some (.struct fs)) (hc : P.cellsOf t = n)
    (hcov : ∀ q, q < n → ∃ (j : Nat) (f : Field), fs[j]? = some f ∧ f.offset ≤ q ∧ q < f.offset + P.cellsOf f.type)
    (hI : ∀ (j : Nat) (f : Field), fs[j]? = some f → Ints enc P w base spare held f.type) : Ints enc P w base spare held t := by
  intro fuel cs x h
  obtain ⟨xs, k, rfl, rfl, hl, hx, hi⟩ := DataW.trod_struct hu h
  rw [hc] at hl
  refine ⟨fun v hv => ?_, ?_⟩
  · obtain ⟨q, hq, rfl⟩ := List.getElem_of_mem hv
    obtain ⟨j, f, hj, h1, h2⟩ := hcov q (by omega)
    have hjl : j < xs.length := by rw [hx]; exact (Array.getElem?_eq_some_iff.1 hj).1
    have g := hi j f hj
    rw [List.getElem?_eq_getElem hjl] at g
    refine (hI j f hj _ _ _ g).1 _ ?_
    rw [List.mem_iff_getElem?]
    refine ⟨q - f.offset, ?_⟩
    rw [List.getElem?_take_of_lt (by omega), List.getElem?_drop, show f.offset + (q - f.offset) = q by omega]
    exact List.getElem?_eq_getElem hq
  · show xs.flatMap (·.2) = []
    rw [List.flatMap_eq_nil_iff]
    intro y hy
    obtain ⟨q, hq, rfl⟩ := List.getElem_of_mem hy
    have hq2 : q < fs.size := by rw [← hx]; exact hq
    have g := hi q fs[q] (Array.getElem?_eq_getElem hq2)
    rw [List.getElem?_eq_getElem hq] at g
    exact (hI q _ (Array.getElem?_eq_getElem hq2) _ _ _ g).2
/-- A value of such a type: an aggregate of numbers. -/
theorem open_vec {r : Reach} {b0 n : Nat} {t : TypeId} {v : Value} {d : DataW H} {ps : List MemPlace} (hI : Ints enc P w base spare held t) (hc : P.cellsOf t = n)
    (hu : ∃ u, P.underlying t = some u ∧ (match u with | .struct _ | .array _ _ => true | _ => false) = true) (hval : Value.okWide P w r b0 t v) (hd : DataW.Trod enc P w base spare held t v d ps) :
    ∃ f : Nat → Int, v = .agg (arrv n f) ∧ (∀ i, -9223372036854775808 ≤ f i ∧ f i ≤ 9223372036854775807) ∧ ps = [] := by
  obtain ⟨u, hu1, hu2⟩ := hu
  have hv : ∃ cs, v = .agg cs ∧ cs.size = P.cellsOf t := by
    unfold Value.okWide at hval
    rw [hu1] at hval
    cases u <;> simp at hu2 hval <;> (obtain ⟨cs, h1, h2, _⟩ := hval; exact ⟨cs, h1, h2⟩)
  obtain ⟨cs, rfl, hs⟩ := hv
  rw [hc] at hs
  obtain ⟨fuel, hf⟩ := hd
  obtain ⟨hA, hp⟩ := hI _ _ _ hf
  have hA' : ∀ i, i < n → ∃ z, cs[i]? = some (.int .i64 z) ∧ (Lit.int .i64 z).wf = true := by
    intro i hi
    have hm : cs[i]'(by omega) ∈ (Value.agg cs).cells.toList := by simp [Value.cells]
    obtain ⟨z, hz, hw⟩ := hA _ hm
    exact ⟨z, by rw [Array.getElem?_eq_getElem (by omega), hz], hw⟩
  refine ⟨fun i => if h : i < n then Classical.choose (hA' i h) else 0, ?_, fun i => ?_, hp⟩
  · congr 1
    apply Array.ext_getElem?
    intro i
    by_cases hi : i < n
    · rw [arrv_get hi]
      simp only [dif_pos hi]
      exact (Classical.choose_spec (hA' i hi)).1
    · rw [Array.getElem?_eq_none (by omega), Array.getElem?_eq_none (by rw [arrv_size]; omega)]
  · by_cases hi : i < n
    · simp only [dif_pos hi]
      exact Go.bounds_i64 (Classical.choose_spec (hA' i hi)).2
    · simp only [dif_neg hi]; omega
end
end Go.Proofs.Ytokcdlcmamdloaa
/- The join of a law: arguments that read before the call read behind it, if nothing that was there has turned. -/
namespace Go.Proofs.Ytokcdlcmamdloaa
open Go.ChangeShapes Go.WideShapes Go.ChangeAt Go.RowKit
theorem trodAll_stays {H : Type} {enc : TypeId × Value → H} {P : Program} (hl : laidOutB P = true) {W W' : World} (hb : Below W.heap.size W W') {sp : Nat → Bool} : ∀ {ts : List TypeId} {vs : List Value} {ds : List (DataW H)} {p : List MemPlace},
    (ts.all fun t => P.readableRec t && decide (t < P.types.size)) = true → DataW.TrodAll enc P W 0 (fun _ => true) true ts vs ds p → (∀ x ∈ p, x.block < W.heap.size) → (∀ x ∈ p, sp x.block = true) → DataW.TrodAll enc P W' 0 sp true ts vs ds p
  | [], [], [], _, _, h, _, _ => h
  | t :: ts, v :: vs, d :: ds, p, ht, h, hlt, hsp => by
    obtain ⟨q, r, h1, h2, rfl⟩ := h
    rw [List.all_cons, Bool.and_eq_true, Bool.and_eq_true, decide_eq_true_eq] at ht
    exact ⟨q, r, WideElems.Trod_stays hl ht.1.1 ht.1.2 h1 (fun x hx => hb.same (hlt x (List.mem_append_left _ hx))) (fun x hx => hsp x (List.mem_append_left _ hx)),
      trodAll_stays hl hb ht.2 h2 (fun x hx => hlt x (List.mem_append_right _ hx)) (fun x hx => hsp x (List.mem_append_right _ hx)), rfl⟩
  | [], _ :: _, _, _, _, h, _, _ => by cases ‹List (DataW H)› <;> exact h.elim
  | [], [], _ :: _, _, _, h, _, _ => h.elim
  | _ :: _, [], _, _, _, h, _, _ => by cases ‹List (DataW H)› <;> exact h.elim
  | _ :: _, _ :: _, [], _, _, h, _, _ => h.elim
/-- What a law owes behind the call: it answers true, and nothing that was there has turned. -/
theorem law_post {H : Type} {enc : TypeId × Value → H} {P : Program} {f : Func} {s : ChangeSpec} {apart fresh handsOn again : Bool} {W W' : World} {args : Array Value} {ds gs : List (DataW H)} {before : List MemPlace} {tb : TypeId}
    (hW : DataW.Whole enc P f.params.toList s.vars apart W args.toList ds gs before) (hv : s.vars = []) (hfn : s.fn H ds = { results := [.lit (.bool true)], args := ds })
    (hu : P.underlying tb = some .bool) (hr : f.resultTypes = #[tb]) (hl : laidOutB P = true) (hts : (f.params.toList.all fun t => P.readableRec t && decide (t < P.types.size)) = true) (hb : Below W.heap.size W W') :
    s.post enc P f apart fresh handsOn again W args (.bool true) W' := by
  have hlt : ∀ x ∈ before, x.block < W.heap.size := fun x hx => hW.lt x hx
  have hW0 := hW
  obtain ⟨p, q, hA, hV, rfl, hfz, hnd⟩ := hW
  rw [hv] at hV
  obtain ⟨rfl, rfl⟩ := trodVars_none hV
  rw [List.append_nil] at hlt
  have hargs : ∀ sp : Nat → Bool, (∀ x ∈ p, sp x.block = true) → DataW.TrodAll enc P W' 0 sp true f.params.toList args.toList ds p := fun sp hsp => trodAll_stays hl hb hts hA hlt hsp
  have hvars : ∀ sp : Nat → Bool, DataW.TrodVars enc P W' sp s.vars ([] : List (DataW H)) [] := fun sp => by rw [hv]; exact rfl
  have hres : ∀ (b : Nat) (sp : Nat → Bool) (hd : Bool), DataW.TrodAll enc P W' b sp hd f.resultTypes.toList ((Value.bool true).resultList f.resultTypes.size) [.lit (.bool true)] [] := fun b sp hd => by
    rw [hr]; exact trodAll_mk1 (shut_bool hu _)
  have hold : ∀ x ∈ p, (fun b => decide (b < W.heap.size)) x.block = true := fun x hx => by simpa using hlt x hx
  have hfn' : s.fn H (ds ++ []) = { results := [.lit (.bool true)], args := ds } := by rw [List.append_nil]; exact hfn
  refine ⟨ds, [], p ++ [], [], p, [], hW0, ?_, ?_, ?_, World.keptBut_mono (fun x hx => ⟨hx, ?_⟩) (hb.frame (· ∈ p ++ [])), fun _ => ?_⟩
  · rw [hfn']; exact hres _ _ _
  · rw [hfn']; exact hargs _ hold
  · rw [hfn']; exact hvars _
  · rw [List.append_nil] at hx; exact Or.inr (.inl hx)
  · refine ⟨ok_one hr rfl (okWide_bool_mk hu _), _, _, ([] ++ p) ++ [], ⟨[] ++ p, [], trodAll_append (hargs _ (fun _ _ => rfl)) (hres _ _ _), hvars _, rfl, ?_, ?_⟩, ?_⟩
    · intro b off hx
      have hin : MemPlace.cell b off ∈ p := by simpa using hx
      rw [hb.frozen (p := ⟨b, off, none⟩) (hlt _ hin)]
      exact hfz b off (by simpa using hin)
    · intro ha
      simpa using hnd ha
    · intro x hx _
      simpa using hx
/-- A slice of int64 (or of int: the numbers are of the same kind), opened. -/
theorem open_slc {H : Type} {enc : TypeId × Value → H} {P : Program} {w : World} {base : Nat} {spare : Nat → Bool} {held : Bool} {r : Reach} {b0 : Nat} {t e : TypeId} {v : Value} {d : DataW H} {ps : List MemPlace} (ht : P.underlying t = some (.slice e)) (he : P.underlying e = some (.int .i64)) (hc : P.cellsOf e = 1)
    (hval : Value.okWide P w r b0 t v) (hd : DataW.Trod enc P w base spare held t v d ps) :
    ∃ p n cp L, v = .slice p n cp ∧ Slc w p n L ∧ n ≤ 9223372036854775807 ∧ ∀ i, -9223372036854775808 ≤ L i ∧ L i ≤ 9223372036854775807 := by
  obtain ⟨a, n, cp, rfl⟩ := okWide_slice ht hval
  obtain ⟨fuel, hf⟩ := hd
  rcases open_ints ht he hc hf with ⟨h0, _⟩ | ⟨ad, len, cap, zs, h0, _, hlc, hcm, hlen, _, hcell, hwf⟩
  · simp [Value.cells] at h0
    obtain ⟨rfl, rfl, rfl⟩ := h0
    exact ⟨none, 0, 0, fun _ => 0, rfl, fun i hi => by omega, by omega, fun _ => ⟨by show (-9223372036854775808 : Int) ≤ 0; omega, by show (0 : Int) ≤ 9223372036854775807; omega⟩⟩
  · simp [Value.cells] at h0
    obtain ⟨rfl, rfl, rfl⟩ := h0
    have hz : n ≤ zs.length := by rw [hlen]; split <;> omega
    refine ⟨some ad, n, cp, fun i => zs.getD i 0, rfl, fun i hi => ?_, by unfold maxLen at hcm; omega, fun i => ?_⟩
    · obtain ⟨b, off, rfl, hb⟩ := ints_at hcell (by omega)
      exact ⟨b, off, rfl, hb i (by omega)⟩
    · by_cases hi : i < zs.length
      · have := Go.bounds_i64 (hwf _ (List.getElem_mem hi))
        simpa [hi] using this
      · simp [List.getElem?_eq_none (by omega : zs.length ≤ i)]
section
variable {H : Type} {enc : TypeId × Value → H} {w : World} {base : Nat} {spare : Nat → Bool} {held : Bool}
theorem cells_of_size {P : Program} {t : TypeId} {n : Nat} (h : (P.info? t).map (·.size) = some n) : P.cellsOf t = n := by
  unfold Program.cellsOf
  cases e : P.info? t with
  | none => rw [e] at h; cases h
  | some i => rw [e] at h; simpa using h
theorem cells_i64 : Try.prog.cellsOf 2 = 1 := cells_of_size (by kernel_rfl)
theorem cells_col : Try.prog.cellsOf 23 = 24 := cells_of_size (by kernel_rfl)
theorem cells_int : Try.prog.cellsOf 3 = 1 := cells_of_size (by kernel_rfl)
theorem cells_row : Try.prog.cellsOf 40 = 24 := cells_of_size (by kernel_rfl)
theorem cells_u : Try.prog.cellsOf 22 = 276 := cells_of_size (by kernel_rfl)
theorem cells_cov : Try.prog.cellsOf 25 = 300 := cells_of_size (by kernel_rfl)
theorem cells_mat : Try.prog.cellsOf 27 = 576 := cells_of_size (by kernel_rfl)
theorem ints_i64 : Ints enc Try.prog w base spare held 2 := ints_int Try.underlying2
theorem ints_col : Ints enc Try.prog w base spare held 23 := ints_array (n := 24) (m := 1) Try.underlying23 cells_col cells_i64 ints_i64
theorem ints_row : Ints enc Try.prog w base spare held 40 := ints_array (n := 24) (m := 1) Try.underlying40 cells_row cells_i64 ints_i64
theorem ints_u : Ints enc Try.prog w base spare held 22 := ints_array (n := 276) (m := 1) Try.underlying22 cells_u cells_i64 ints_i64
theorem ints_cov : Ints enc Try.prog w base spare held 25 := ints_struct2 (a := 276) (b := 24) Try.underlying25 cells_cov rfl rfl cells_u cells_col ints_u ints_col
theorem ints_mat : Ints enc Try.prog w base spare held 27 := ints_array (n := 24) (m := 24) Try.underlying27 cells_mat cells_col ints_col
theorem own_knob : ownKnob Try.prog.godebug = none := by kernel_rfl
theorem laid_out : laidOutB Try.prog = true := by kernel_rfl
end
end Go.Proofs.Ytokcdlcmamdloaa
