/- One elimination of a run: its numbers without clamps, and what its roundings come to. No program. -/
import Derived.Test.YtanmddenleffaaaCl1
namespace Go.Proofs.Ytanmddenleffaaa
theorem rsh_ab {x m : Int} (h : ab x ≤ 1073741824 * m) : ab (rsh x 30) ≤ m := by
  have e := rsh_err x
  have := ab_le h
  exact le_ab (by omega)
theorem rsh_two (x : Int) : 2 * ab (1073741824 * rsh x 30 - x) ≤ 1073741824 := by
  have e := rsh_err x
  unfold ab; omega
theorem sb_ab {x m : Int} (h : ab x ≤ m) (hm : m ≤ 1152921504606846976) : SB x := by
  have := ab_le h
  unfold SB; omega
theorem dotS_sg {A B : Nat → Int} : ∀ {n : Nat}, (∀ k, k < n → SB (A k) ∧ SB (B k)) → dotS A B n = sg (fun k => A k * B k) n ∧ dotB A B n = false
  | 0, _ => ⟨rfl, rfl⟩
  | n + 1, h => by
    have ih := dotS_sg (n := n) fun k hk => h k (by omega)
    have hn := h n (by omega)
    unfold dotS dotB sg
    rw [ih.1, ih.2, satV_sb hn.1, satV_sb hn.2, satH_sb hn.1, satH_sb hn.2]
    exact ⟨rfl, rfl⟩
theorem dotV_sg {A B : Nat → Int} {n : Nat} (h : ∀ k, k < n → SB (A k) ∧ SB (B k)) (hs : SB (rsh (sg (fun k => A k * B k) n) 30)) : dotV 30 A B n = rsh (sg (fun k => A k * B k) n) 30 ∧ dotH 30 A B n = false := by
  have d := dotS_sg h
  unfold dotV dotH
  rw [if_neg (by decide), if_neg (by decide), d.1, d.2, show (30 : Int).toNat = 30 from rfl, satV_sb hs, satH_sb hs]
  exact ⟨rfl, rfl⟩
/-- The weights. -/
def WtB (e : Nat → Int) : Prop := ∀ k, k < 48 → 0 ≤ e k ∧ e k ≤ 22000000000000
/-- The rows up to j: the sum of their numbers' sizes, and their squares' sums. -/
def RwB (W e : Nat → Int) (j : Nat) : Prop := ∀ i, i ≤ j → sg (fun k => ab (W (i * 48 + k))) 48 ≤ 50000000000000 ∧ gr (rowF 48 W i) (rowF 48 W i) e ≤ 50706024009129176059868128215040
section
variable {W e : Nat → Int} {j : Nat} (he : WtB e) (hW : RwB W e j)
include hW in
theorem rw_ent {i k : Nat} (hi : i ≤ j) (hk : k < 48) : ab (W (i * 48 + k)) ≤ 50000000000000 := by
  have := sg_one (f := fun k => ab (W (i * 48 + k))) hk fun k _ => (ab_bd _).1
  have := (hW i hi).1
  omega
include he hW in
theorem st_y {k : Nat} (hk : k < 48) : stY W e j k = rsh (W (j * 48 + k) * e k) 30 ∧ yB W e j k = false ∧ SB (stY W e j k) := by
  have h1 := rw_ent hW (Nat.le_refl j) hk
  have h2 := he k hk
  have h3 : ab (W (j * 48 + k) * e k) ≤ 1073741824 * 1152921504606846976 := by
    rw [ab_mul]
    have : ab (e k) ≤ 22000000000000 := le_ab (by omega)
    exact Int.le_trans (Int.mul_le_mul h1 this (ab_bd _).1 (by decide)) (by decide)
  have h4 := sb_ab (rsh_ab h3) (Int.le_refl _)
  have m := mulV_of (sb_ab h1 (by decide)) (show SB (e k) by unfold SB; omega) h4
  unfold stY yB
  exact ⟨m.1, m.2, by rw [m.1]; exact h4⟩
/-- The products of a row with y: told by the weighted sum of products, within the roundings. -/
theorem y_err (he : WtB e) (hW : RwB W e j) {i : Nat} (hi : i ≤ j) :
    2 * ab (1073741824 * sg (fun k => W (i * 48 + k) * stY W e j k) 48 - gr (rowF 48 W i) (rowF 48 W j) e) ≤ 1073741824 * 70368744177664 := by
  have h1 : 1073741824 * sg (fun k => W (i * 48 + k) * stY W e j k) 48 = sg (fun k => (1073741824 * stY W e j k - W (j * 48 + k) * e k) * W (i * 48 + k)) 48 + gr (rowF 48 W i) (rowF 48 W j) e := by
    unfold gr rowF
    rw [← sg_mul, ← sg_add]
    refine sg_congr fun k _ => ?_
    grind
  rw [h1, Int.add_sub_cancel]
  have h2 : ∀ k, k < 48 → ab (2 * (1073741824 * stY W e j k - W (j * 48 + k) * e k)) ≤ 1073741824 := fun k hk => by
    rw [(st_y he hW hk).1, ab_mul, show ab 2 = 2 from rfl]
    exact rsh_two (W (j * 48 + k) * e k)
  have h3 := sg_bd (y := fun k => W (i * 48 + k)) h2
  rw [show (fun k => 2 * (1073741824 * stY W e j k - W (j * 48 + k) * e k) * W (i * 48 + k)) = (fun k => 2 * ((1073741824 * stY W e j k - W (j * 48 + k) * e k) * W (i * 48 + k))) from funext fun k => Int.mul_assoc _ _ _, sg_mul, ab_mul] at h3
  have h4 := (hW i hi).1
  exact Int.le_trans h3 (by omega)
include he in
theorem gr_nonneg (a : Nat → Int) : 0 ≤ gr a a e := sg_nonneg fun k hk => Int.mul_nonneg (sq_nn (a k)) (he k hk).1
include he hW in
/-- The variance of row j. -/
theorem st_d (hd : ∃ k, k < 48 ∧ W (j * 48 + k) = 1073741824 ∧ 17179869184 ≤ e k) :
    2 * ab (1152921504606846976 * stD W e j - gr (rowF 48 W j) (rowF 48 W j) e) ≤ 75559016647418930266112 ∧ 17179869184 ≤ stD W e j ∧ stD W e j ≤ 43980465190000 ∧ dB W e j = false := by
  have hy := y_err he hW (Nat.le_refl j)
  have hg := (hW j (Nat.le_refl j)).2
  have h0 := gr_nonneg he (rowF 48 W j)
  have hr := rsh_err (sg (fun k => W (j * 48 + k) * stY W e j k) 48)
  have hlow : 1073741824 * 17179869184 ≤ sg (fun k => W (j * 48 + k) * stY W e j k) 48 := by
    obtain ⟨k, hk, h1, h2⟩ := hd
    have h3 : ∀ k, k < 48 → 0 ≤ W (j * 48 + k) * stY W e j k := fun k hk => by
      rw [(st_y he hW hk).1]
      by_cases hs : 0 ≤ W (j * 48 + k)
      · exact Int.mul_nonneg hs (cl_rshnn (Int.mul_nonneg hs (he k hk).1))
      · exact Int.mul_nonneg_of_nonpos_of_nonpos (by omega) (cl_rshnp (Int.mul_nonpos_of_nonpos_of_nonneg (by omega) (he k hk).1))
    have h4 := sg_one hk h3
    rw [h1, (st_y he hW hk).1, h1, cl_rshmul] at h4
    have := Int.mul_le_mul_of_nonneg_left h2 (show (0 : Int) ≤ 1073741824 by decide)
    omega
  obtain ⟨S, hS⟩ : ∃ S, sg (fun k => W (j * 48 + k) * stY W e j k) 48 = S := ⟨_, rfl⟩
  rw [hS] at hy hr hlow
  obtain ⟨G, hG⟩ : ∃ G, gr (rowF 48 W j) (rowF 48 W j) e = G := ⟨_, rfl⟩
  rw [hG] at hy hg h0 ⊢
  have hy' := ab_le (show ab (1073741824 * S - G) ≤ 37778931862957161709568 by omega)
  have d0 : 17179869184 ≤ rsh S 30 := by omega
  have d1 : rsh S 30 ≤ 43980465190000 := by omega
  have dv := dotV_sg (A := rowF 48 W j) (B := stY W e j) (n := 48) (fun k hk => ⟨sb_ab (rw_ent hW (Nat.le_refl j) hk) (by decide), (st_y he hW hk).2.2⟩) (by unfold rowF; rw [hS]; unfold SB; omega)
  have dv1 : dotV 30 (rowF 48 W j) (stY W e j) 48 = rsh S 30 := by rw [dv.1]; unfold rowF; rw [hS]
  have vv := cl_varV (a := rsh S 30) (by omega) (by omega)
  have hD : stD W e j = rsh S 30 := by unfold stD; rw [dv1, vv.1]
  refine ⟨?_, by rw [hD]; exact d0, by rw [hD]; exact d1, ?_⟩
  · rw [hD]
    have : ab (1152921504606846976 * rsh S 30 - G) ≤ 37779508323709465133056 := le_ab (by omega)
    omega
  · unfold dB; rw [dv.2, dv1, vv.2]; rfl
include he hW in
/-- The multiple of row j in row i. -/
theorem st_u (hd : ∃ k, k < 48 ∧ W (j * 48 + k) = 1073741824 ∧ 17179869184 ≤ e k) {i : Nat} (hi : i < j) :
    2 * ab (1073741824 * stD W e j * stU W e j i - gr (rowF 48 W i) (rowF 48 W j) e) ≤ 75559016647418930266112 + 1073741824 * stD W e j ∧ ab (stU W e j i) ≤ 56908316672 ∧ uB W e j i = false := by
  have ⟨hv, d0, d1, _⟩ := st_d he hW hd
  have hy := y_err he hW (Nat.le_of_lt hi)
  have hr := rsh_err (sg (fun k => W (i * 48 + k) * stY W e j k) 48)
  have h2 := gr_two (rowF 48 W i) (rowF 48 W j) e (fun k hk => (he k hk).1) 64
  have gi := (hW i (Nat.le_of_lt hi)).2
  have gj := (hW j (Nat.le_refl j)).2
  have g0 := gr_nonneg he (rowF 48 W i)
  obtain ⟨S, hS⟩ : ∃ S, sg (fun k => W (i * 48 + k) * stY W e j k) 48 = S := ⟨_, rfl⟩
  rw [hS] at hy hr
  obtain ⟨V, hV⟩ : ∃ G, gr (rowF 48 W j) (rowF 48 W j) e = G := ⟨_, rfl⟩
  obtain ⟨A, hA⟩ : ∃ G, gr (rowF 48 W i) (rowF 48 W j) e = G := ⟨_, rfl⟩
  obtain ⟨G, hG⟩ : ∃ G, gr (rowF 48 W i) (rowF 48 W i) e = G := ⟨_, rfl⟩
  rw [hV] at hv h2 gj
  rw [hG] at gi h2 g0
  rw [hA] at hy h2 ⊢
  obtain ⟨D, hD⟩ : ∃ D, stD W e j = D := ⟨_, rfl⟩
  rw [hD] at hv d0 d1 ⊢
  have hy' := ab_le (show ab (1073741824 * S - A) ≤ 37778931862957161709568 by omega)
  have hv' := ab_le (show ab (1152921504606846976 * D - V) ≤ 37779508323709465133056 by omega)
  have h2' := ab_le h2
  have pb : -1152921504606846976 ≤ rsh S 30 ∧ rsh S 30 ≤ 1152921504606846976 := by omega
  have dv := dotV_sg (A := rowF 48 W i) (B := stY W e j) (n := 48) (fun k hk => ⟨sb_ab (rw_ent hW (Nat.le_of_lt hi) hk) (by decide), (st_y he hW hk).2.2⟩) (by unfold rowF; rw [hS]; exact pb)
  have dv1 : dotV 30 (rowF 48 W i) (stY W e j) 48 = rsh S 30 := by rw [dv.1]; unfold rowF; rw [hS]
  have q := rdiv_err (x := rsh S 30 * 1073741824) (d := D) (by omega)
  obtain ⟨u, hu⟩ : ∃ u, rdiv (rsh S 30 * 1073741824) D = u := ⟨_, rfl⟩
  rw [hu] at q
  obtain ⟨x, hx⟩ : ∃ x, D * u = x := ⟨_, rfl⟩
  have ub : ab u ≤ 56908316672 := by
    refine Decidable.byContradiction fun hc => ?_
    have m1 := Int.mul_le_mul_of_nonneg_left (show 56908316673 ≤ ab u by omega) (show 0 ≤ D by omega)
    have m2 : D * ab u = ab x := by rw [← hx, ab_mul]; congr 1; unfold ab; omega
    rw [m2] at m1
    rw [hx] at q
    have : ab x = x ∨ ab x = -x := by unfold ab; omega
    omega
  have du := cl_divV (a := rsh S 30) (b := D) pb (by unfold SB; omega) (by omega) (by rw [hu]; exact sb_ab ub (by decide))
  have hU : stU W e j i = u := by unfold stU; rw [dv1, hD, du.1, hu]
  rw [hU]
  refine ⟨?_, ub, ?_⟩
  · rw [Int.mul_assoc, hx]
    rw [hx] at q
    have : ab (1073741824 * x - A) ≤ 37779508323709465133056 + 536870912 * D := le_ab (by omega)
    omega
  · unfold uB; rw [dv.2, dv1, hD, du.2]; rfl
include hW in
/-- What is left of row i. -/
theorem st_w {i k : Nat} (hi : i < j) (hk : k < 48) {u : Int} (hu : ab u ≤ 56908316672) : elV W u j i k = W (i * 48 + k) - rsh (u * W (j * 48 + k)) 30 ∧ elB W u j i k = false := by
  have h1 := rw_ent hW (Nat.le_refl j) hk
  have h2 := rw_ent hW (Nat.le_of_lt hi) hk
  have h3 : ab (u * W (j * 48 + k)) ≤ 1073741824 * 3729543441416192 := by
    rw [ab_mul]
    exact Int.le_trans (Int.mul_le_mul hu h1 (ab_bd _).1 (by decide)) (by decide)
  have h4 := rsh_ab h3
  have m := mulV_of (sb_ab hu (by decide)) (sb_ab h1 (by decide)) (sb_ab h4 (by decide))
  have h5 := ab_le h4
  have h6 := ab_le h2
  have s := cl_subV (a := W (i * 48 + k)) (b := rsh (u * W (j * 48 + k)) 30) (sb_ab h2 (by decide)) (sb_ab h4 (by decide)) (by unfold SB; omega)
  unfold elV elB
  rw [m.1, m.2, s.1, s.2]
  exact ⟨rfl, rfl⟩
end
end Go.Proofs.Ytanmddenleffaaa
