/- Contracts and plain laws beyond the other parts: they hold for all arguments. -/
import Derived.Test.YtcombidoaghlbaaQ01
import Derived.Test.YtcombidoaghlbaaQ02
import Derived.Test.YtcombidoaghlbaaQ03
import Derived.Test.YtcombidoaghlbaaQ04
import Derived.Test.YtcombidoaghlbaaQ05
import Derived.Test.YtcombidoaghlbaaQ06
import Derived.Test.YtcombidoaghlbaaQ07
import Derived.Test.YtcombidoaghlbaaQ08
import Derived.Test.YtcombidoaghlbaaQ09
namespace Go.Proofs.Ytcombidoaghlbaa
open Go.RowKit
theorem Flg.row {w : World} {b k : Nat} {h : Bool} (f : Flg w b h) (cs : Array Value) (hk : b ≠ k) : Flg (w.setRow k cs) b h := (Go.setRow_other w k b cs hk).trans f
open Go in
/-- A region that draws its order: one of two may come up. -/
theorem wpAnyM_twoS {P : Program} {ops : Array Oper} {Q : Exit → Act → World → Prop} {md : Region.Mode} {L : Nat} {S : World → Prop} (i j : Nat) {oi oj : Oper} {fuel : Nat} {listed : Array Bool} {a : Act} {w : World} (hi : ops.toList[i]? = some oi) (hj : ops.toList[j]? = some oj) (hr : Region.ready md ops listed = [i, j])
    (h1 : ∀ K : Act → World → Prop, Shut (∀ a w, S w → (S w → wpAnyM P md ops Q S L fuel (listed.setIfInBounds i true) a w) → K a w) →
      if Region.wanted oi (yielded ops a.tmps) = true then Oper.wp P oi a w K Q else K (a.put oi.dst undef) w)
    (h2 : ∀ K : Act → World → Prop, Shut (∀ a w, S w → (S w → wpAnyM P md ops Q S L fuel (listed.setIfInBounds j true) a w) → K a w) →
      if Region.wanted oj (yielded ops a.tmps) = true then Oper.wp P oj a w K Q else K (a.put oj.dst undef) w) :
    wpAnyM P md ops Q S L (fuel + 1) listed a w := by
  have hi' : ops[i]? = some oi := by rwa [Array.getElem?_toList] at hi
  have hj' : ops[j]? = some oj := by rwa [Array.getElem?_toList] at hj
  refine ⟨fun h0 => (by rw [hr] at h0; cases h0), fun k hk => ?_⟩
  rw [hr] at hk
  have hk' : k = i ∨ k = j := by simpa using hk
  rcases hk' with rfl | rfl
  · exact wpOp_step hi' (fun K' hK => h1 K' (fun a w hS hW => hK a w ⟨.inr hS, hW hS⟩))
  · exact wpOp_step hj' (fun K' hK => h2 K' (fun a w hS hW => hK a w ⟨.inr hS, hW hS⟩))
open Go in
theorem wp_of_run {P : Program} {o : Oper} {a : Act} {w w' : World} {K : Act → World → Prop} {Q : Exit → Act → World → Prop} (hy : (execOp a.eval o).run P w = .ok .skip w') (h : K (a.put o.dst undef) w') : Oper.wp P o a w K Q := by
  unfold Oper.wp
  rw [hy]
  exact h
end Go.Proofs.Ytcombidoaghlbaa
namespace Go.Proofs.Ytcombidoaghlbaa
theorem ab_neg (x : Int) : ab (-x) = ab x := by unfold ab; omega
end Go.Proofs.Ytcombidoaghlbaa
namespace Go.Proofs.Ytcombidoaghlbaa
theorem stD_bd (W e : Nat → Int) (j : Nat) : 1 ≤ stD W e j ∧ stD W e j ≤ 72057594037927936 := by
  unfold stD varV clampV
  split
  · omega
  · split
    · omega
    · split <;> omega
/-- A row that has nothing in common with row j. -/
theorem stU_zero {W e : Nat → Int} {j i : Nat} (he : WtB e) (hW : RwB W e j) (hi : i < j) (h : ∀ k, k < 48 → W (i * 48 + k) = 0 ∨ W (j * 48 + k) = 0) : stU W e j i = 0 := by
  have hz : sg (fun k => W (i * 48 + k) * stY W e j k) 48 = 0 := sg_zero fun k hk => by
    rcases h k hk with h | h
    · rw [h, Int.zero_mul]
    · rw [(st_y he hW hk).1, h, Int.zero_mul, show rsh 0 30 = 0 by decide, Int.mul_zero]
  have du := dotV_sg (A := rowF 48 W i) (B := stY W e j) (n := 48) (fun k hk => ⟨sb_ab (rw_ent hW (Nat.le_of_lt hi) hk) (by decide), (st_y he hW hk).2.2⟩) (by unfold rowF; rw [hz]; unfold SB; decide)
  have du1 : dotV 30 (rowF 48 W i) (stY W e j) 48 = 0 := by rw [du.1]; unfold rowF; rw [hz]; rfl
  have d := stD_bd W e j
  have r0 : rdiv (0 * 1073741824) (stD W e j) = 0 := by rw [Int.zero_mul]; exact cl_rdiv0 (by omega)
  have q := cl_divV (a := 0) (b := stD W e j) (by unfold SB; decide) (by unfold SB; omega) (by omega) (by rw [r0]; unfold SB; decide)
  unfold stU; rw [du1, q.1, r0]
theorem OO_pos : ∀ n, 0 < OO n
  | 0 => by decide
  | n + 1 => by have := OO_pos n; unfold OO; omega
theorem comb (O o u ρ w wj r : Int) {ti tj A : Nat → Int} {a : Nat} (ha : a < 24) (h1 : o * w = sg (fun p => ti p * A p) 24) (h2 : o * wj = sg (fun p => tj p * A p) 24) (hρ : O * r = u * wj + ρ) (B : Nat → Int) (hB : ∀ p, p < 24 → (O * ti p - u * tj p) * B p = (O * ti p - u * tj p) * A p - (if p = a then o * ρ else 0)) :
    O * o * (w - r) = sg (fun p => (O * ti p - u * tj p) * B p) 24 := by
  have e1 : sg (fun p => (O * ti p - u * tj p) * B p) 24 + o * ρ = sg (fun p => (O * ti p - u * tj p) * A p) 24 := by
    have : sg (fun p => if p = a then o * ρ else 0) 24 = o * ρ := by rw [sg_only ha fun k _ h => if_neg h, if_pos rfl]
    rw [← this, ← sg_add]
    exact sg_congr fun p hp => by rw [hB p hp]; omega
  have e2 : sg (fun p => (O * ti p - u * tj p) * A p) 24 + u * sg (fun p => tj p * A p) 24 = O * sg (fun p => ti p * A p) 24 := by
    rw [← sg_mul, ← sg_mul, ← sg_add]
    exact sg_congr fun p _ => by grind
  rw [← h1, ← h2] at e2
  grind
/-- What was rounded when row j was taken from row i. -/
def rhoF (W e : Nat → Int) (j i k : Nat) : Int := 1073741824 * rsh (stU W e j i * W (j * 48 + k)) 30 - stU W e j i * W (j * 48 + k)
theorem rho_bd (W e : Nat → Int) (j i k : Nat) : ab (rhoF W e j i k) ≤ 536870912 := by
  have := rsh_two (stU W e j i * W (j * 48 + k))
  unfold rhoF; omega
theorem rho_0 {W e : Nat → Int} {j i k : Nat} (h : stU W e j i = 0 ∨ W (j * 48 + k) = 0) : rhoF W e j i k = 0 := by
  unfold rhoF
  rcases h with h | h
  · rw [h, Int.zero_mul, show rsh 0 30 = 0 by decide]; rfl
  · rw [h, Int.mul_zero, show rsh 0 30 = 0 by decide]; rfl
theorem tr_start {W e : Nat → Int} {kx : Nat} (H : TriH W e kx) : TrP W e kx 0 (fun i p => if p = i then 1 else 0) (fun p m => 1073741824 * W (p * 48 + m)) (fun p m => 1073741824 * W (p * 48 + (24 + m))) where
  z1 := H.low
  z2 := H.one
  z3 := fun m hm => ⟨by show W _ = _; rw [H.right m m hm hm, if_pos rfl], fun i h1 h2 => by show W _ = _; rw [H.right i m h2 hm, if_neg (by omega)]⟩
  k1 := fun h _ k hk hne => by
    show W _ = _
    by_cases h2 : k < 24
    · exact H.zk h k h2
    · obtain ⟨m, rfl⟩ : ∃ m, k = 24 + m := ⟨k - 24, by omega⟩
      rw [H.right kx m h (by omega), if_neg (by omega)]
  k2 := fun h i hi hne => by show W _ = _; rw [H.right i kx hi h, if_neg (by omega)]
  t1 := fun i _ => by rw [if_pos rfl]; rfl
  t2 := fun i p _ h _ => if_neg h
  t4 := fun i p _ h h2 => if_neg (by omega)
  a1 := fun p hp hne => by rw [H.one p hp hne]; rfl
  a2 := fun p m h1 h2 => by rw [H.low p m h1 h2]; rfl
  a3 := fun p m h1 h2 h3 => by
    have := H.up p m h1 h2 h3
    rw [ab_mul, show ab 1073741824 = 1073741824 from rfl]; omega
  a4 := fun h m hm => by rw [H.zk h m hm]; rfl
  v1 := fun p hp => by rw [H.right p p hp hp, if_pos rfl]; rfl
  v2 := fun p m hm hp hne => by rw [H.right p m hp hm, if_neg (Ne.symm hne)]; decide
  r1 := fun i m hi _ => by
    show 1073741824 * 1 * W (i * 48 + m) = _
    rw [sg_only (show i < 24 by omega) fun p _ h => by rw [if_neg h, Int.zero_mul], if_pos rfl]; omega
  r2 := fun i m hi _ => by
    show 1073741824 * 1 * W (i * 48 + (24 + m)) = _
    rw [sg_only (show i < 24 by omega) fun p _ h => by rw [if_neg h, Int.zero_mul], if_pos rfl]; omega
theorem tr_step {W e : Nat → Int} {kx n : Nat} {t A V : Nat → Nat → Int} (H : TriH W e kx) (hn : n < 24) (T : TrP W e kx n t A V) (hW : RwB (WN W e n) e (23 - n)) (S : StO (WN W e n) e (23 - n)) :
    TrP W e kx (n + 1) (fun i p => if i < 23 - n then 1073741824 * t i p - stU (WN W e n) e (23 - n) i * t (23 - n) p else t i p)
      (fun p m => if p < 23 - n then A p m - rhoF (WN W e n) e (23 - n) p m else A p m) (fun p m => if p < 23 - n then V p m - rhoF (WN W e n) e (23 - n) p (24 + m) else V p m) := by
  obtain ⟨j, hj⟩ : ∃ j, 23 - n = j := ⟨_, rfl⟩
  have hj24 : j < 24 := by omega
  have e24 : 24 - n = j + 1 := by omega
  have e25 : 24 - (n + 1) = j := by omega
  have wge : ∀ i k, j ≤ i → k < 48 → WN W e (n + 1) (i * 48 + k) = WN W e n (i * 48 + k) := fun i k hi hk => by
    show elW (WN W e n) e (23 - n) (23 - n) 0 (i * 48 + k) = _
    exact row_ge (by omega) hk
  have wlt : ∀ i k, i < j → k < 48 → WN W e (n + 1) (i * 48 + k) = WN W e n (i * 48 + k) - rsh (stU (WN W e n) e j i * WN W e n (j * 48 + k)) 30 := fun i k hi hk => by
    have := S.w i (by omega) k hk
    rw [hj] at this
    show elW (WN W e n) e (23 - n) (23 - n) 0 (i * 48 + k) = _
    rw [hj]; exact this
  rw [hj] at hW
  rw [hj]
  have same : ∀ i k, i < 24 → k < 48 → WN W e n (j * 48 + k) = 0 → WN W e (n + 1) (i * 48 + k) = WN W e n (i * 48 + k) := fun i k hi hk h => by
    by_cases h2 : i < j
    · rw [wlt i k h2 hk, h, Int.mul_zero, show rsh 0 30 = 0 by decide, Int.sub_zero]
    · exact wge i k (by omega) hk
  -- the state that is forgotten has nothing in common with any
  have ukx : ∀ i, kx < 24 → i < j → (i = kx ∨ j = kx) → stU (WN W e n) e j i = 0 := fun i hk hi h => by
    refine stU_zero H.wt hW hi fun k hk2 => ?_
    rcases h with h | h
    · subst h
      by_cases h3 : k = 24 + i
      · right; rw [h3]; exact T.k2 hk j hj24 (by omega)
      · left; exact T.k1 hk (by omega) k hk2 h3
    · by_cases h3 : k = 24 + kx
      · left; rw [h3]; exact T.k2 hk i (by omega) (by omega)
      · right; rw [h]; exact T.k1 hk (by omega) k hk2 h3
  have jr : ∀ m, m < j → WN W e n (j * 48 + (24 + m)) = 0 := fun m hm => (T.z3 m (by omega)).2 j hm hj24
  have jl : ∀ m, m < j → WN W e n (j * 48 + m) = 0 := fun m hm => T.z1 j m hm hj24
  refine ⟨fun i m h1 h2 => ?_, fun i h1 h2 => ?_, rgt_step hn T.z3 S, fun h1 h2 k hk hne => ?_, fun h1 i hi hne => ?_, fun i hi => ?_, fun i p hi h1 h2 => ?_, fun i p hi h1 h2 => ?_, fun p hp hne => ?_, fun p m h1 h2 => ?_, fun p m h1 h2 h3 => ?_, fun h1 m hm => ?_, fun p hp => ?_, fun p m hm hp hne => ?_, fun i m hi hm => ?_, fun i m hi hm => ?_⟩
  · by_cases h3 : i < j
    · rw [same i m h2 (by omega) (jl m (by omega))]; exact T.z1 i m h1 h2
    · rw [wge i m (by omega) (by omega)]; exact T.z1 i m h1 h2
  · by_cases h3 : i < j
    · rw [same i i h1 (by omega) (jl i h3)]; exact T.z2 i h1 h2
    · rw [wge i i (by omega) (by omega)]; exact T.z2 i h1 h2
  · rw [wlt kx k (by omega) hk, ukx kx h1 (by omega) (.inl rfl), Int.zero_mul, show rsh 0 30 = 0 by decide, Int.sub_zero]
    exact T.k1 h1 (by omega) k hk hne
  · by_cases h3 : i < j
    · by_cases h4 : j = kx
      · rw [wlt i (24 + kx) h3 (by omega), ukx i h1 h3 (.inr h4), Int.zero_mul, show rsh 0 30 = 0 by decide, Int.sub_zero]
        exact T.k2 h1 i hi hne
      · rw [same i (24 + kx) hi (by omega) (T.k2 h1 j hj24 h4)]; exact T.k2 h1 i hi hne
    · rw [wge i (24 + kx) (by omega) (by omega)]; exact T.k2 h1 i hi hne
  · rw [if_pos (by omega), T.t1 i (by omega), T.t2 j i (by omega) (by omega) (by omega), Int.mul_zero, Int.sub_zero]; rfl
  · rw [if_pos (by omega), T.t2 i p (by omega) h1 (by omega), T.t2 j p (by omega) (by omega) (by omega), Int.mul_zero, Int.mul_zero]; rfl
  · rw [if_pos (by omega), T.t4 i p (by omega) h1 h2, Int.mul_zero]
    by_cases h3 : kx < 24
    · by_cases h4 : j = kx
      · rw [ukx i h3 (by omega) (.inr h4), Int.zero_mul]; rfl
      · rw [T.t4 j p (by omega) h4 h2, Int.mul_zero]; rfl
    · rw [T.t4 j p (by omega) (by omega) h2, Int.mul_zero]; rfl
  · by_cases h3 : p < j
    · rw [if_pos h3, rho_0 (.inr (jl p h3)), Int.sub_zero]; exact T.a1 p hp hne
    · rw [if_neg h3]; exact T.a1 p hp hne
  · by_cases h3 : p < j
    · rw [if_pos h3, rho_0 (.inr (jl m (by omega))), Int.sub_zero]; exact T.a2 p m h1 h2
    · rw [if_neg h3]; exact T.a2 p m h1 h2
  · have a := T.a3 p m h1 h2 h3
    have b := rho_bd (WN W e n) e j p m
    rw [Int.natCast_add, Int.add_mul]
    split
    · have c := ab_add (A p m) (-(rhoF (WN W e n) e j p m))
      rw [ab_neg] at c
      rw [Int.sub_eq_add_neg]; omega
    · omega
  · by_cases h3 : kx < j
    · rw [if_pos h3, rho_0 (.inl (ukx kx h1 h3 (.inl rfl))), Int.sub_zero]; exact T.a4 h1 m hm
    · rw [if_neg h3]; exact T.a4 h1 m hm
  · by_cases h3 : p < j
    · rw [if_pos h3, rho_0 (.inr (jr p h3)), Int.sub_zero]; exact T.v1 p hp
    · rw [if_neg h3]; exact T.v1 p hp
  · have a := T.v2 p m hm hp hne
    have b := rho_bd (WN W e n) e j p (24 + m)
    rw [Int.natCast_add, Int.add_mul]
    split
    · have c := ab_add (V p m) (-(rhoF (WN W e n) e j p (24 + m)))
      rw [ab_neg] at c
      rw [Int.sub_eq_add_neg]; omega
    · omega
  · have hi' : i < j := by omega
    rw [wlt i m hi' (by omega)]
    have c := comb 1073741824 (OO (n + 1)) (stU (WN W e n) e j i) (rhoF (WN W e n) e j i m) _ _ (rsh (stU (WN W e n) e j i * WN W e n (j * 48 + m)) 30) (show i < 24 by omega) (T.r1 i m (by omega) hm) (T.r1 j m (by omega) hm) (by unfold rhoF; omega) (fun p => if p < j then A p m - rhoF (WN W e n) e j p m else A p m) (fun p hp => by
      by_cases h3 : p = i
      · subst h3
        rw [if_pos hi', if_pos rfl, T.t1 p (by omega), T.t2 j p (by omega) (by omega) (by omega), Int.mul_zero, Int.sub_zero, Int.mul_sub]; rfl
      · rw [if_neg h3, Int.sub_zero]
        by_cases h4 : p < j
        · rw [T.t2 i p (by omega) h3 (by omega), T.t2 j p (by omega) (by omega) (by omega), Int.mul_zero, Int.mul_zero, Int.sub_zero, Int.zero_mul, Int.zero_mul]
        · rw [if_neg h4])
    refine Eq.trans (show OO (n + 1 + 1) * _ = 1073741824 * OO (n + 1) * _ from rfl) (c.trans (sg_congr fun p hp => ?_))
    simp only [if_pos hi']
  · have hi' : i < j := by omega
    rw [wlt i (24 + m) hi' (by omega)]
    have c := comb 1073741824 (OO (n + 1)) (stU (WN W e n) e j i) (rhoF (WN W e n) e j i (24 + m)) _ _ (rsh (stU (WN W e n) e j i * WN W e n (j * 48 + (24 + m))) 30) (show i < 24 by omega) (T.r2 i m (by omega) hm) (T.r2 j m (by omega) hm) (by unfold rhoF; omega) (fun p => if p < j then V p m - rhoF (WN W e n) e j p (24 + m) else V p m) (fun p hp => by
      by_cases h3 : p = i
      · subst h3
        rw [if_pos hi', if_pos rfl, T.t1 p (by omega), T.t2 j p (by omega) (by omega) (by omega), Int.mul_zero, Int.sub_zero, Int.mul_sub]; rfl
      · rw [if_neg h3, Int.sub_zero]
        by_cases h4 : p < j
        · rw [T.t2 i p (by omega) h3 (by omega), T.t2 j p (by omega) (by omega) (by omega), Int.mul_zero, Int.mul_zero, Int.sub_zero, Int.zero_mul, Int.zero_mul]
        · rw [if_neg h4])
    refine Eq.trans (show OO (n + 1 + 1) * _ = 1073741824 * OO (n + 1) * _ from rfl) (c.trans (sg_congr fun p hp => ?_))
    simp only [if_pos hi']
end Go.Proofs.Ytcombidoaghlbaa
