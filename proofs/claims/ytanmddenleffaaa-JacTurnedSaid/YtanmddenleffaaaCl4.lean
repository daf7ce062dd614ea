/- All eliminations of a run: what comes out is the weighted products of the rows, within roundings. No program. -/
import Derived.Test.YtanmddenleffaaaCl3
namespace Go.Proofs.Ytanmddenleffaaa
/-- Row j has One where the weight is great. -/
def Nrm (W e : Nat → Int) (j : Nat) : Prop := ∃ k, k < 48 ∧ W (j * 48 + k) = 1073741824 ∧ 17179869184 ≤ e k
/-- Row j is One alone, where no other row ahead has a number. -/
def Pln (W e : Nat → Int) (j : Nat) : Prop := ∃ k0, k0 < 48 ∧ W (j * 48 + k0) = 1073741824 ∧ 1 ≤ e k0 ∧ (∀ k, k < 48 → k ≠ k0 → W (j * 48 + k) = 0) ∧ ∀ i, i < j → W (i * 48 + k0) = 0
theorem cl_orB {p : Nat → Bool} : ∀ {n : Nat}, (∀ i, i < n → p i = false) → orB p n = false
  | 0, _ => rfl
  | n + 1, h => by unfold orB; rw [cl_orB (n := n) fun i hi => h i (by omega), h n (by omega)]; rfl
theorem sg_zero {f : Nat → Int} {n : Nat} (h : ∀ k, k < n → f k = 0) : sg f n = 0 := by
  rw [sg_congr h, sg_const]; simp
theorem sg_only {f : Nat → Int} {a : Nat} : ∀ {n : Nat}, a < n → (∀ k, k < n → k ≠ a → f k = 0) → sg f n = f a
  | 0, h, _ => absurd h (Nat.not_lt_zero _)
  | n + 1, h, h0 => by
    unfold sg
    by_cases e : a = n
    · subst e; rw [sg_zero fun k hk => h0 k (by omega) (by omega)]; omega
    · rw [sg_only (n := n) (by omega) fun k hk => h0 k (by omega), h0 n (by omega) (by omega)]; omega
theorem row_lt {W e : Nat → Int} {j i k : Nat} (hi : i < j) (hk : k < 48) : elW W e j j 0 (i * 48 + k) = elV W (stU W e j i) j i k := by
  have e1 : (i * 48 + k) / 48 = i := by omega
  have e2 : (i * 48 + k) % 48 = k := by omega
  unfold elW; rw [e1, e2, if_pos (.inl hi)]
theorem row_ge {W e : Nat → Int} {j i k : Nat} (hi : j ≤ i) (hk : k < 48) : elW W e j j 0 (i * 48 + k) = W (i * 48 + k) := by
  have e1 : (i * 48 + k) / 48 = i := by omega
  unfold elW; rw [e1, if_neg (by omega)]
/-- What a stage does. -/
structure StO (W e : Nat → Int) (j : Nat) : Prop where
  flag : stageH W e j = false
  u : ∀ i, i < j → ab (stU W e j i) ≤ 56908316672
  w : ∀ i, i < j → ∀ k, k < 48 → elW W e j j 0 (i * 48 + k) = W (i * 48 + k) - rsh (stU W e j i * W (j * 48 + k)) 30
  own : ∀ i, i < j → gr (lfR W e j i) (lfR W e j i) e ≤ gr (rowF 48 W i) (rowF 48 W i) e + 116056878683004400771792896
  two : ∀ i l, i < j → l < j → ab (gr (lfR W e j i) (lfR W e j l) e - gr (rowF 48 W i) (rowF 48 W l) e + stU W e j i * stU W e j l * stD W e j) ≤ 116056878683004400771792896
section
variable {W e : Nat → Int} {j : Nat} (he : WtB e) (hW : RwB W e j)
include he hW in
theorem stage_flag (hd : dB W e j = false) (hu : ∀ i, i < j → uB W e j i = false ∧ ab (stU W e j i) ≤ 56908316672) : stageH W e j = false := by
  unfold stageH
  rw [hd, cl_orB fun k hk => (st_y he hW hk).2.1, cl_orB]; rfl
  intro i hi
  unfold rowB
  rw [(hu i hi).1, cl_orB fun k hk => (st_w hW hi hk (hu i hi).2).2]; rfl
include he hW in
theorem nrm_out (hd : Nrm W e j) : StO W e j := by
  have d := st_d he hW hd
  refine ⟨stage_flag he hW d.2.2.2 fun i hi => ⟨(st_u he hW hd hi).2.2, (st_u he hW hd hi).2.1⟩, fun i hi => (st_u he hW hd hi).2.1, fun i hi k hk => ?_, fun i hi => pair_own he hW hd hi, fun i l hi hl => pair_two he hW hd hi hl⟩
  rw [row_lt hi hk, (st_w hW hi hk (st_u he hW hd hi).2.1).1]
include he hW in
theorem pln_y {k0 : Nat} (h1 : W (j * 48 + k0) = 1073741824) (h3 : ∀ k, k < 48 → k ≠ k0 → W (j * 48 + k) = 0) {k : Nat} (hk : k < 48) : stY W e j k = if k = k0 then e k0 else 0 := by
  rw [(st_y he hW hk).1]
  by_cases h : k = k0
  · rw [if_pos h, h, h1, cl_rshmul]
  · rw [if_neg h, h3 k hk h, Int.zero_mul]; rfl
include he hW in
theorem pln_d (hd : Pln W e j) : ∃ k0, k0 < 48 ∧ stD W e j = e k0 ∧ dB W e j = false ∧ (∀ i, i < j → stU W e j i = 0 ∧ uB W e j i = false) ∧ W (j * 48 + k0) = 1073741824 := by
  obtain ⟨k0, hk0, h1, h2, h3, h4⟩ := hd
  have hy := fun {k} (hk : k < 48) => pln_y he hW h1 h3 hk
  have e0 := he k0 hk0
  have hs : sg (fun k => W (j * 48 + k) * stY W e j k) 48 = 1073741824 * e k0 := by
    rw [sg_only hk0 fun k hk hne => by rw [h3 k hk hne, Int.zero_mul], h1, hy hk0, if_pos rfl]
  have dv := dotV_sg (A := rowF 48 W j) (B := stY W e j) (n := 48) (fun k hk => ⟨sb_ab (rw_ent hW (Nat.le_refl j) hk) (by decide), (st_y he hW hk).2.2⟩) (by unfold rowF; rw [hs, cl_rshmul]; unfold SB; omega)
  have dv1 : dotV 30 (rowF 48 W j) (stY W e j) 48 = e k0 := by rw [dv.1]; unfold rowF; rw [hs, cl_rshmul]
  have vv := cl_varV (a := e k0) (by omega) (by omega)
  have hD : stD W e j = e k0 := by unfold stD; rw [dv1, vv.1]
  refine ⟨k0, hk0, hD, by unfold dB; rw [dv.2, dv1, vv.2]; rfl, fun i hi => ?_, h1⟩
  have hz : sg (fun k => W (i * 48 + k) * stY W e j k) 48 = 0 := sg_zero fun k hk => by
    rw [hy hk]
    split
    · next h => rw [h, h4 i hi, Int.zero_mul]
    · exact Int.mul_zero _
  have du := dotV_sg (A := rowF 48 W i) (B := stY W e j) (n := 48) (fun k hk => ⟨sb_ab (rw_ent hW (Nat.le_of_lt hi) hk) (by decide), (st_y he hW hk).2.2⟩) (by unfold rowF; rw [hz]; unfold SB; decide)
  have du1 : dotV 30 (rowF 48 W i) (stY W e j) 48 = 0 := by rw [du.1]; unfold rowF; rw [hz]; rfl
  have r0 : rdiv (0 * 1073741824) (e k0) = 0 := by rw [Int.zero_mul]; exact cl_rdiv0 (by omega)
  have q := cl_divV (a := 0) (b := e k0) (by unfold SB; decide) (by unfold SB; omega) (by omega) (by rw [r0]; unfold SB; decide)
  exact ⟨by unfold stU; rw [du1, hD, q.1, r0], by unfold uB; rw [du.2, du1, hD, q.2]; rfl⟩
include he hW in
theorem pln_out (hd : Pln W e j) : StO W e j := by
  obtain ⟨k0, hk0, hD, hB, hu, h1⟩ := pln_d he hW hd
  have hl : ∀ i, i < j → lfR W e j i = rowF 48 W i := fun i hi => by
    funext k
    unfold lfR tkR
    rw [(hu i hi).1, Int.zero_mul, show rsh 0 30 = 0 by decide, Int.sub_zero]
  refine ⟨stage_flag he hW hB fun i hi => ⟨(hu i hi).2, by rw [(hu i hi).1]; decide⟩, fun i hi => by rw [(hu i hi).1]; decide, fun i hi k hk => ?_, fun i hi => ?_, fun i l hi hl2 => ?_⟩
  · rw [row_lt hi hk, (st_w hW hi hk (by rw [(hu i hi).1]; decide)).1]
  · rw [hl i hi]; omega
  · rw [hl i hi, hl l hl2, (hu i hi).1]
    simp [ab]
end
/-- The multiple of the row of stage m in row i, and that row's variance. -/
def UU (W e : Nat → Int) (i m : Nat) : Int := stU (WN W e m) e (23 - m) i
def DD (W e : Nat → Int) (m : Nat) : Int := stD (WN W e m) e (23 - m)
/-- What all stages ahead took of the product of rows i and l. -/
def SS (W e : Nat → Int) (i l n : Nat) : Int := sg (fun m => UU W e i m * UU W e l m * DD W e m) n
structure RnI (W e : Nat → Int) (n : Nat) : Prop where
  flag : HN W e n = false
  own : ∀ i, i < 24 - n → gr (rowF 48 (WN W e n) i) (rowF 48 (WN W e n) i) e ≤ gr (rowF 48 W i) (rowF 48 W i) e + n * 116056878683004400771792896
  two : ∀ i l, i < 24 - n → l < 24 - n → ab (gr (rowF 48 (WN W e n) i) (rowF 48 (WN W e n) l) e - gr (rowF 48 W i) (rowF 48 W l) e + SS W e i l n) ≤ n * 116056878683004400771792896
theorem run_step {W e : Nat → Int} {n : Nat} (hn : n < 24) (I : RnI W e n) (S : StO (WN W e n) e (23 - n)) : RnI W e (n + 1) := by
  have hrow : ∀ i, i < 24 - (n + 1) → gr (rowF 48 (WN W e (n + 1)) i) = gr (lfR (WN W e n) e (23 - n) i) → True := fun _ _ _ => trivial
  clear hrow
  have hr : ∀ i, i < 23 - n → ∀ k, k < 48 → rowF 48 (WN W e (n + 1)) i k = lfR (WN W e n) e (23 - n) i k := fun i hi k hk => S.w i hi k hk
  have hg : ∀ i l, i < 23 - n → l < 23 - n → gr (rowF 48 (WN W e (n + 1)) i) (rowF 48 (WN W e (n + 1)) l) e = gr (lfR (WN W e n) e (23 - n) i) (lfR (WN W e n) e (23 - n) l) e := fun i l hi hl => sg_congr fun k hk => by rw [hr i hi k hk, hr l hl k hk]
  refine ⟨?_, fun i hi => ?_, fun i l hi hl => ?_⟩
  · show (HN W e n || stageH (WN W e n) e (23 - n)) = false
    rw [I.flag, S.flag]; rfl
  · rw [hg i i (by omega) (by omega)]
    have a := S.own i (by omega)
    have b := I.own i (by omega)
    rw [Int.natCast_add, Int.add_mul]
    omega
  · rw [hg i l (by omega) (by omega)]
    have a := S.two i l (by omega) (by omega)
    have b := I.two i l (by omega) (by omega)
    have e1 : SS W e i l (n + 1) = SS W e i l n + stU (WN W e n) e (23 - n) i * stU (WN W e n) e (23 - n) l * stD (WN W e n) e (23 - n) := rfl
    have c := ab_add (gr (lfR (WN W e n) e (23 - n) i) (lfR (WN W e n) e (23 - n) l) e - gr (rowF 48 (WN W e n) i) (rowF 48 (WN W e n) l) e + stU (WN W e n) e (23 - n) i * stU (WN W e n) e (23 - n) l * stD (WN W e n) e (23 - n)) (gr (rowF 48 (WN W e n) i) (rowF 48 (WN W e n) l) e - gr (rowF 48 W i) (rowF 48 W l) e + SS W e i l n)
    rw [e1, Int.natCast_add, Int.add_mul]
    refine Int.le_trans (Int.le_of_eq ?_) (Int.le_trans c (Int.le_trans (Int.add_le_add a b) (Int.le_of_eq ?_)))
    · congr 1; omega
    · omega
/-- What a run needs: P tells more of the rows, from which their sizes come. -/
structure RunH (W e : Nat → Int) (P : Nat → Prop) : Prop where
  he : WtB e
  p0 : P 0
  g : ∀ i, i < 24 → gr (rowF 48 W i) (rowF 48 W i) e ≤ 50700000000000000000000000000000
  hN : ∀ n, n < 24 → P n → (∀ i, i ≤ 23 - n → gr (rowF 48 (WN W e n) i) (rowF 48 (WN W e n) i) e ≤ 50706024009129176059868128215040) → ∀ i, i ≤ 23 - n → sg (fun k => ab (WN W e n (i * 48 + k))) 48 ≤ 50000000000000
  hS : ∀ n, n < 24 → P n → Nrm (WN W e n) e (23 - n) ∨ Pln (WN W e n) e (23 - n)
  hP : ∀ n, n < 24 → P n → RwB (WN W e n) e (23 - n) → StO (WN W e n) e (23 - n) → P (n + 1)
theorem RunH.rw {W e : Nat → Int} {P : Nat → Prop} (H : RunH W e P) {n : Nat} (hn : n < 24) (p : P n) (I : RnI W e n) : RwB (WN W e n) e (23 - n) := by
  have g : ∀ i, i ≤ 23 - n → gr (rowF 48 (WN W e n) i) (rowF 48 (WN W e n) i) e ≤ 50706024009129176059868128215040 := fun i hi => by
    have a := I.own i (by omega)
    have b := H.g i (by omega)
    omega
  exact fun i hi => ⟨H.hN n hn p g i hi, g i hi⟩
theorem RunH.all {W e : Nat → Int} {P : Nat → Prop} (H : RunH W e P) : ∀ n, n ≤ 24 → P n ∧ RnI W e n
  | 0, _ => ⟨H.p0, rfl, fun i hi => by show gr (rowF 48 W i) (rowF 48 W i) e ≤ _; omega, fun i l _ _ => by
      show ab (gr (rowF 48 W i) (rowF 48 W l) e - gr (rowF 48 W i) (rowF 48 W l) e + 0) ≤ _
      simp [ab]⟩
  | n + 1, hn => by
    obtain ⟨p, I⟩ := H.all n (by omega)
    have hW := H.rw (by omega) p I
    have S : StO (WN W e n) e (23 - n) := (H.hS n (by omega) p).elim (nrm_out H.he hW) (pln_out H.he hW)
    exact ⟨H.hP n (by omega) p hW S, run_step (by omega) I S⟩
theorem RunH.st {W e : Nat → Int} {P : Nat → Prop} (H : RunH W e P) {n : Nat} (hn : n < 24) : P n ∧ RnI W e n ∧ RwB (WN W e n) e (23 - n) ∧ StO (WN W e n) e (23 - n) := by
  obtain ⟨p, I⟩ := H.all n (by omega)
  have hW := H.rw (by omega) p I
  exact ⟨p, I, hW, (H.hS n (by omega) p).elim (nrm_out H.he hW) (pln_out H.he hW)⟩
/-- The variances and multiples of a run are small. -/
theorem RunH.dd {W e : Nat → Int} {P : Nat → Prop} (H : RunH W e P) {n : Nat} (hn : n < 24) : 1 ≤ DD W e n ∧ DD W e n ≤ 43980465190000 := by
  obtain ⟨p, I, hW, S⟩ := H.st hn
  rcases H.hS n hn p with h | h
  · have := st_d H.he hW h
    unfold DD; omega
  · obtain ⟨k0, hk0, h1, _, _, _⟩ := pln_d H.he hW h
    obtain ⟨k1, hk1, h2, h3, h4, _⟩ := h
    unfold DD
    have := H.he k0 hk0
    rw [h1]
    have : 1 ≤ e k0 := by
      by_cases h5 : k0 = k1
      · rw [h5]; exact h3
      · obtain ⟨k2, hk2, h6, _, _, h7⟩ := pln_d H.he hW ⟨k1, hk1, h2, h3, h4, by assumption⟩
        have d : 1 ≤ stD (WN W e n) e (23 - n) := by unfold stD varV clampV; split; omega; split; omega; split; omega; omega
        omega
    omega
end Go.Proofs.Ytanmddenleffaaa
