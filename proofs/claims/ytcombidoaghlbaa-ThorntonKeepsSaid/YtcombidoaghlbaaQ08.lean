/- Contracts of the program's functions and plain laws, part 8: they hold for all arguments. -/
import Derived.Test.YtcombidoaghlbaaQ07
import Derived.WalkKit
/- The numbers that the Close laws make of what is given; masks and remainders. No program beyond the numbers' names. -/
namespace Go.Proofs.Ytcombidoaghlbaa
open Go
theorem andM (u : Int) {M : Nat} (hM : M ≤ 9000000000000000000) : 0 ≤ Go.bits .and .i64 u (M : Int) ∧ Go.bits .and .i64 u (M : Int) ≤ (M : Int) := by
  obtain ⟨n, hn, e⟩ : ∃ n : Nat, n ≤ M ∧ Go.bits .and .i64 u (M : Int) = Go.IntKind.i64.wrap (n : Int) := by
    refine ⟨(BitVec.ofInt 64 u &&& BitVec.ofInt 64 (M : Int)).toNat, ?_, rfl⟩
    rw [BitVec.toNat_and]
    refine Nat.le_trans Nat.and_le_right ?_
    rw [BitVec.toNat_ofInt]
    omega
  rw [e, Go.IntWalk.i64_in _ (by omega)]
  omega
theorem and43 (u : Int) : 0 ≤ Go.bits .and .i64 u 8796093022207 ∧ Go.bits .and .i64 u 8796093022207 ≤ 8796093022207 := andM u (M := 8796093022207) (by decide)
theorem and39 (u : Int) : 0 ≤ Go.bits .and .i64 u 549755813887 ∧ Go.bits .and .i64 u 549755813887 ≤ 549755813887 := andM u (M := 549755813887) (by decide)
theorem tmod_ab (x : Int) {m : Int} (hm : 0 < m) : ab (x.tmod m) ≤ m - 1 := by
  have h : (x.tmod m).natAbs = x.natAbs % m.natAbs := Int.natAbs_tmod x m
  have h2 := Nat.mod_lt x.natAbs (show 0 < m.natAbs by omega)
  unfold ab
  rw [h]; omega
/-- U within a quarter; D from 2^34 to 2^44; the noise likewise; the matrix near One. -/
def clU (p : Nat → Int) (k : Nat) : Nat → Int := fun x => if x < k then (p x).tmod 268435456 else p x
def clD (p : Nat → Int) (k : Nat) : Nat → Int := fun x => if x < 276 then (p x).tmod 268435456 else if x - 276 < k then 17179869184 + Go.bits .and .i64 (p x) 8796093022207 else p x
def clQk (q : Nat → Int) (k : Nat) : Nat → Int := fun x => if x < k then 17179869184 + Go.bits .and .i64 (q x) 549755813887 else q x
def clFr (F : Nat → Int) (k m : Nat) : Nat → Int := fun x => if x / 24 < k then (F x).tmod 16777216 + (if x % 24 = x / 24 then 1073741824 else 0) else if x / 24 = k ∧ x % 24 < m then (F x).tmod 16777216 else F x
theorem clD_start (p : Nat → Int) : ∀ x, x < 300 → clU p 276 x = clD p 0 x := fun x _ => by
  unfold clU clD
  by_cases h : x < 276
  · rw [if_pos h, if_pos h]
  · rw [if_neg h, if_neg h, if_neg (by omega)]
theorem clU_next (p : Nat → Int) (k : Nat) : ∀ x, upd (clU p k) k ((clU p k k).tmod 268435456) x = clU p (k + 1) x := fun x => by
  unfold upd clU
  rw [if_neg (show ¬ k < k by omega)]
  by_cases h : x = k
  · subst h; rw [if_pos rfl, if_pos (by omega)]
  · rw [if_neg h]
    by_cases h2 : x < k
    · rw [if_pos h2, if_pos (by omega)]
    · rw [if_neg h2, if_neg (by omega)]
theorem clD_at (p : Nat → Int) (k : Nat) : clD p k (276 + k) = p (276 + k) := by unfold clD; rw [if_neg (by omega), if_neg (by omega)]
theorem clD_next (p : Nat → Int) (k : Nat) : ∀ x, upd (clD p k) (276 + k) (17179869184 + Go.bits .and .i64 (p (276 + k)) 8796093022207) x = clD p (k + 1) x := fun x => by
  unfold upd clD
  by_cases h : x = 276 + k
  · subst h; rw [if_pos rfl, if_neg (by omega), if_pos (by omega)]
  · rw [if_neg h]
    by_cases h1 : x < 276
    · rw [if_pos h1, if_pos h1]
    · rw [if_neg h1, if_neg h1]
      by_cases h2 : x - 276 < k
      · rw [if_pos h2, if_pos (by omega)]
      · rw [if_neg h2, if_neg (by omega)]
theorem clQ_at (q : Nat → Int) (k : Nat) : clQk q k k = q k := by unfold clQk; rw [if_neg (by omega)]
theorem clQ_next (q : Nat → Int) (k : Nat) : ∀ x, upd (clQk q k) k (17179869184 + Go.bits .and .i64 (q k) 549755813887) x = clQk q (k + 1) x := fun x => by
  unfold upd clQk
  by_cases h : x = k
  · subst h; rw [if_pos rfl, if_pos (by omega)]
  · rw [if_neg h]
    by_cases h2 : x < k
    · rw [if_pos h2, if_pos (by omega)]
    · rw [if_neg h2, if_neg (by omega)]
theorem clF_at (F : Nat → Int) {k m : Nat} (hm : m < 24) : clFr F k m (k * 24 + m) = F (k * 24 + m) := by
  unfold clFr; rw [if_neg (by omega), if_neg (by omega)]
theorem clF_next (F : Nat → Int) {k m : Nat} (hm : m < 24) : ∀ x, upd (clFr F k m) (k * 24 + m) ((F (k * 24 + m)).tmod 16777216) x = clFr F k (m + 1) x := fun x => by
  unfold upd clFr
  by_cases h : x = k * 24 + m
  · subst h; rw [if_pos rfl, if_neg (by omega), if_pos (by omega)]
  · rw [if_neg h]
    by_cases h2 : x / 24 < k
    · rw [if_pos h2, if_pos h2]
    · rw [if_neg h2, if_neg h2]
      by_cases h3 : x / 24 = k ∧ x % 24 < m
      · rw [if_pos h3, if_pos (by omega)]
      · rw [if_neg h3, if_neg (by omega)]
theorem clF_diag (F : Nat → Int) {k : Nat} (hk : k < 24) : clFr F k 24 (k * 24 + k) = (F (k * 24 + k)).tmod 16777216 := by
  unfold clFr; rw [if_neg (by omega), if_pos (by omega)]
theorem clF_row (F : Nat → Int) {k : Nat} (hk : k < 24) : ∀ x, upd (clFr F k 24) (k * 24 + k) ((F (k * 24 + k)).tmod 16777216 + 1073741824) x = clFr F (k + 1) 0 x := fun x => by
  unfold upd clFr
  by_cases h : x = k * 24 + k
  · rw [if_pos h, if_pos (show x / 24 < k + 1 by omega), if_pos (show x % 24 = x / 24 by omega), h]
  · rw [if_neg h]
    by_cases h2 : x / 24 < k
    · rw [if_pos h2, if_pos (show x / 24 < k + 1 by omega)]
    · rw [if_neg h2]
      by_cases h3 : x / 24 = k
      · rw [if_pos (show x / 24 = k ∧ x % 24 < 24 by omega), if_pos (show x / 24 < k + 1 by omega), if_neg (show ¬ x % 24 = x / 24 by omega), Int.add_zero]
      · rw [if_neg (show ¬ (x / 24 = k ∧ x % 24 < 24) by omega), if_neg (show ¬ x / 24 < k + 1 by omega), if_neg (show ¬ (x / 24 = k + 1 ∧ x % 24 < 0) by omega)]
end Go.Proofs.Ytcombidoaghlbaa
/- One elimination of a run: its numbers without clamps, and what its roundings come to. No program. -/
namespace Go.Proofs.Ytcombidoaghlbaa
theorem rsh_ab {x m : Int} (h : ab x ≤ 1073741824 * m) : ab (rsh x 30) ≤ m := by
  have e := rsh_err x
  have := ab_le h
  exact le_ab (by omega)
theorem rsh_two (x : Int) : 2 * ab (1073741824 * rsh x 30 - x) ≤ 1073741824 := by
  have e := rsh_err x
  unfold ab; omega
theorem sb_ab {x m : Int} (h : ab x ≤ m) (hm : m ≤ 1152921504606846976) : SB x := by
  have := ab_le h
  unfold SB; omega
theorem dotS_sg {A B : Nat → Int} : ∀ {n : Nat}, (∀ k, k < n → SB (A k) ∧ SB (B k)) → dotS A B n = sg (fun k => A k * B k) n ∧ dotB A B n = false
  | 0, _ => ⟨rfl, rfl⟩
  | n + 1, h => by
    have ih := dotS_sg (n := n) fun k hk => h k (by omega)
    have hn := h n (by omega)
    unfold dotS dotB sg
    rw [ih.1, ih.2, satV_sb hn.1, satV_sb hn.2, satH_sb hn.1, satH_sb hn.2]
    exact ⟨rfl, rfl⟩
theorem dotV_sg {A B : Nat → Int} {n : Nat} (h : ∀ k, k < n → SB (A k) ∧ SB (B k)) (hs : SB (rsh (sg (fun k => A k * B k) n) 30)) : dotV 30 A B n = rsh (sg (fun k => A k * B k) n) 30 ∧ dotH 30 A B n = false := by
  have d := dotS_sg h
  unfold dotV dotH
  rw [if_neg (by decide), if_neg (by decide), d.1, d.2, show (30 : Int).toNat = 30 from rfl, satV_sb hs, satH_sb hs]
  exact ⟨rfl, rfl⟩
/-- The weights. -/
def WtB (e : Nat → Int) : Prop := ∀ k, k < 48 → 0 ≤ e k ∧ e k ≤ 22000000000000
/-- The rows up to j: the sum of their numbers' sizes, and their squares' sums. -/
def RwB (W e : Nat → Int) (j : Nat) : Prop := ∀ i, i ≤ j → sg (fun k => ab (W (i * 48 + k))) 48 ≤ 50000000000000 ∧ gr (rowF 48 W i) (rowF 48 W i) e ≤ 50706024009129176059868128215040
section
variable {W e : Nat → Int} {j : Nat} (he : WtB e) (hW : RwB W e j)
include hW in
theorem rw_ent {i k : Nat} (hi : i ≤ j) (hk : k < 48) : ab (W (i * 48 + k)) ≤ 50000000000000 := by
  have := sg_one (f := fun k => ab (W (i * 48 + k))) hk fun k _ => (ab_bd _).1
  have := (hW i hi).1
  omega
include he hW in
theorem st_y {k : Nat} (hk : k < 48) : stY W e j k = rsh (W (j * 48 + k) * e k) 30 ∧ yB W e j k = false ∧ SB (stY W e j k) := by
  have h1 := rw_ent hW (Nat.le_refl j) hk
  have h2 := he k hk
  have h3 : ab (W (j * 48 + k) * e k) ≤ 1073741824 * 1152921504606846976 := by
    rw [ab_mul]
    have : ab (e k) ≤ 22000000000000 := le_ab (by omega)
    exact Int.le_trans (Int.mul_le_mul h1 this (ab_bd _).1 (by decide)) (by decide)
  have h4 := sb_ab (rsh_ab h3) (Int.le_refl _)
  have m := mulV_of (sb_ab h1 (by decide)) (show SB (e k) by unfold SB; omega) h4
  unfold stY yB
  exact ⟨m.1, m.2, by rw [m.1]; exact h4⟩
/-- The products of a row with y: told by the weighted sum of products, within the roundings. -/
theorem y_err (he : WtB e) (hW : RwB W e j) {i : Nat} (hi : i ≤ j) :
    2 * ab (1073741824 * sg (fun k => W (i * 48 + k) * stY W e j k) 48 - gr (rowF 48 W i) (rowF 48 W j) e) ≤ 1073741824 * 70368744177664 := by
  have h1 : 1073741824 * sg (fun k => W (i * 48 + k) * stY W e j k) 48 = sg (fun k => (1073741824 * stY W e j k - W (j * 48 + k) * e k) * W (i * 48 + k)) 48 + gr (rowF 48 W i) (rowF 48 W j) e := by
    unfold gr rowF
    rw [← sg_mul, ← sg_add]
    refine sg_congr fun k _ => ?_
    grind
  rw [h1, Int.add_sub_cancel]
  have h2 : ∀ k, k < 48 → ab (2 * (1073741824 * stY W e j k - W (j * 48 + k) * e k)) ≤ 1073741824 := fun k hk => by
    rw [(st_y he hW hk).1, ab_mul, show ab 2 = 2 from rfl]
    exact rsh_two (W (j * 48 + k) * e k)
  have h3 := sg_bd (y := fun k => W (i * 48 + k)) h2
  rw [show (fun k => 2 * (1073741824 * stY W e j k - W (j * 48 + k) * e k) * W (i * 48 + k)) = (fun k => 2 * ((1073741824 * stY W e j k - W (j * 48 + k) * e k) * W (i * 48 + k))) from funext fun k => Int.mul_assoc _ _ _, sg_mul, ab_mul] at h3
  have h4 := (hW i hi).1
  exact Int.le_trans h3 (by omega)
include he in
theorem gr_nonneg (a : Nat → Int) : 0 ≤ gr a a e := sg_nonneg fun k hk => Int.mul_nonneg (sq_nn (a k)) (he k hk).1
include he hW in
/-- The variance of row j. -/
theorem st_d (hd : ∃ k, k < 48 ∧ W (j * 48 + k) = 1073741824 ∧ 17179869184 ≤ e k) :
    2 * ab (1152921504606846976 * stD W e j - gr (rowF 48 W j) (rowF 48 W j) e) ≤ 75559016647418930266112 ∧ 17179869184 ≤ stD W e j ∧ stD W e j ≤ 43980465190000 ∧ dB W e j = false := by
  have hy := y_err he hW (Nat.le_refl j)
  have hg := (hW j (Nat.le_refl j)).2
  have h0 := gr_nonneg he (rowF 48 W j)
  have hr := rsh_err (sg (fun k => W (j * 48 + k) * stY W e j k) 48)
  have hlow : 1073741824 * 17179869184 ≤ sg (fun k => W (j * 48 + k) * stY W e j k) 48 := by
    obtain ⟨k, hk, h1, h2⟩ := hd
    have h3 : ∀ k, k < 48 → 0 ≤ W (j * 48 + k) * stY W e j k := fun k hk => by
      rw [(st_y he hW hk).1]
      by_cases hs : 0 ≤ W (j * 48 + k)
      · exact Int.mul_nonneg hs (cl_rshnn (Int.mul_nonneg hs (he k hk).1))
      · exact Int.mul_nonneg_of_nonpos_of_nonpos (by omega) (cl_rshnp (Int.mul_nonpos_of_nonpos_of_nonneg (by omega) (he k hk).1))
    have h4 := sg_one hk h3
    rw [h1, (st_y he hW hk).1, h1, cl_rshmul] at h4
    have := Int.mul_le_mul_of_nonneg_left h2 (show (0 : Int) ≤ 1073741824 by decide)
    omega
  obtain ⟨S, hS⟩ : ∃ S, sg (fun k => W (j * 48 + k) * stY W e j k) 48 = S := ⟨_, rfl⟩
  rw [hS] at hy hr hlow
  obtain ⟨G, hG⟩ : ∃ G, gr (rowF 48 W j) (rowF 48 W j) e = G := ⟨_, rfl⟩
  rw [hG] at hy hg h0 ⊢
  have hy' := ab_le (show ab (1073741824 * S - G) ≤ 37778931862957161709568 by omega)
  have d0 : 17179869184 ≤ rsh S 30 := by omega
  have d1 : rsh S 30 ≤ 43980465190000 := by omega
  have dv := dotV_sg (A := rowF 48 W j) (B := stY W e j) (n := 48) (fun k hk => ⟨sb_ab (rw_ent hW (Nat.le_refl j) hk) (by decide), (st_y he hW hk).2.2⟩) (by unfold rowF; rw [hS]; unfold SB; omega)
  have dv1 : dotV 30 (rowF 48 W j) (stY W e j) 48 = rsh S 30 := by rw [dv.1]; unfold rowF; rw [hS]
  have vv := cl_varV (a := rsh S 30) (by omega) (by omega)
  have hD : stD W e j = rsh S 30 := by unfold stD; rw [dv1, vv.1]
  refine ⟨?_, by rw [hD]; exact d0, by rw [hD]; exact d1, ?_⟩
  · rw [hD]
    have : ab (1152921504606846976 * rsh S 30 - G) ≤ 37779508323709465133056 := le_ab (by omega)
    omega
  · unfold dB; rw [dv.2, dv1, vv.2]; rfl
include he hW in
/-- The multiple of row j in row i. -/
theorem st_u (hd : ∃ k, k < 48 ∧ W (j * 48 + k) = 1073741824 ∧ 17179869184 ≤ e k) {i : Nat} (hi : i < j) :
    2 * ab (1073741824 * stD W e j * stU W e j i - gr (rowF 48 W i) (rowF 48 W j) e) ≤ 75559016647418930266112 + 1073741824 * stD W e j ∧ ab (stU W e j i) ≤ 56908316672 ∧ uB W e j i = false := by
  have ⟨hv, d0, d1, _⟩ := st_d he hW hd
  have hy := y_err he hW (Nat.le_of_lt hi)
  have hr := rsh_err (sg (fun k => W (i * 48 + k) * stY W e j k) 48)
  have h2 := gr_two (rowF 48 W i) (rowF 48 W j) e (fun k hk => (he k hk).1) 64
  have gi := (hW i (Nat.le_of_lt hi)).2
  have gj := (hW j (Nat.le_refl j)).2
  have g0 := gr_nonneg he (rowF 48 W i)
  obtain ⟨S, hS⟩ : ∃ S, sg (fun k => W (i * 48 + k) * stY W e j k) 48 = S := ⟨_, rfl⟩
  rw [hS] at hy hr
  obtain ⟨V, hV⟩ : ∃ G, gr (rowF 48 W j) (rowF 48 W j) e = G := ⟨_, rfl⟩
  obtain ⟨A, hA⟩ : ∃ G, gr (rowF 48 W i) (rowF 48 W j) e = G := ⟨_, rfl⟩
  obtain ⟨G, hG⟩ : ∃ G, gr (rowF 48 W i) (rowF 48 W i) e = G := ⟨_, rfl⟩
  rw [hV] at hv h2 gj
  rw [hG] at gi h2 g0
  rw [hA] at hy h2 ⊢
  obtain ⟨D, hD⟩ : ∃ D, stD W e j = D := ⟨_, rfl⟩
  rw [hD] at hv d0 d1 ⊢
  have hy' := ab_le (show ab (1073741824 * S - A) ≤ 37778931862957161709568 by omega)
  have hv' := ab_le (show ab (1152921504606846976 * D - V) ≤ 37779508323709465133056 by omega)
  have h2' := ab_le h2
  have pb : -1152921504606846976 ≤ rsh S 30 ∧ rsh S 30 ≤ 1152921504606846976 := by omega
  have dv := dotV_sg (A := rowF 48 W i) (B := stY W e j) (n := 48) (fun k hk => ⟨sb_ab (rw_ent hW (Nat.le_of_lt hi) hk) (by decide), (st_y he hW hk).2.2⟩) (by unfold rowF; rw [hS]; exact pb)
  have dv1 : dotV 30 (rowF 48 W i) (stY W e j) 48 = rsh S 30 := by rw [dv.1]; unfold rowF; rw [hS]
  have q := rdiv_err (x := rsh S 30 * 1073741824) (d := D) (by omega)
  obtain ⟨u, hu⟩ : ∃ u, rdiv (rsh S 30 * 1073741824) D = u := ⟨_, rfl⟩
  rw [hu] at q
  obtain ⟨x, hx⟩ : ∃ x, D * u = x := ⟨_, rfl⟩
  have ub : ab u ≤ 56908316672 := by
    refine Decidable.byContradiction fun hc => ?_
    have m1 := Int.mul_le_mul_of_nonneg_left (show 56908316673 ≤ ab u by omega) (show 0 ≤ D by omega)
    have m2 : D * ab u = ab x := by rw [← hx, ab_mul]; congr 1; unfold ab; omega
    rw [m2] at m1
    rw [hx] at q
    have : ab x = x ∨ ab x = -x := by unfold ab; omega
    omega
  have du := cl_divV (a := rsh S 30) (b := D) pb (by unfold SB; omega) (by omega) (by rw [hu]; exact sb_ab ub (by decide))
  have hU : stU W e j i = u := by unfold stU; rw [dv1, hD, du.1, hu]
  rw [hU]
  refine ⟨?_, ub, ?_⟩
  · rw [Int.mul_assoc, hx]
    rw [hx] at q
    have : ab (1073741824 * x - A) ≤ 37779508323709465133056 + 536870912 * D := le_ab (by omega)
    omega
  · unfold uB; rw [dv.2, dv1, hD, du.2]; rfl
include hW in
/-- What is left of row i. -/
theorem st_w {i k : Nat} (hi : i < j) (hk : k < 48) {u : Int} (hu : ab u ≤ 56908316672) : elV W u j i k = W (i * 48 + k) - rsh (u * W (j * 48 + k)) 30 ∧ elB W u j i k = false := by
  have h1 := rw_ent hW (Nat.le_refl j) hk
  have h2 := rw_ent hW (Nat.le_of_lt hi) hk
  have h3 : ab (u * W (j * 48 + k)) ≤ 1073741824 * 3729543441416192 := by
    rw [ab_mul]
    exact Int.le_trans (Int.mul_le_mul hu h1 (ab_bd _).1 (by decide)) (by decide)
  have h4 := rsh_ab h3
  have m := mulV_of (sb_ab hu (by decide)) (sb_ab h1 (by decide)) (sb_ab h4 (by decide))
  have h5 := ab_le h4
  have h6 := ab_le h2
  have s := cl_subV (a := W (i * 48 + k)) (b := rsh (u * W (j * 48 + k)) 30) (sb_ab h2 (by decide)) (sb_ab h4 (by decide)) (by unfold SB; omega)
  unfold elV elB
  rw [m.1, m.2, s.1, s.2]
  exact ⟨rfl, rfl⟩
end
end Go.Proofs.Ytcombidoaghlbaa
/- One elimination: what is left of the weighted products of rows. No program. -/
namespace Go.Proofs.Ytcombidoaghlbaa
theorem sg_wt {e : Nat → Int} (he : WtB e) : 0 ≤ sg e 48 ∧ sg e 48 ≤ 1056000000000000 := by
  refine ⟨sg_nonneg fun k hk => (he k hk).1, ?_⟩
  have h := sg_le (f := e) (g := fun _ => 22000000000000) (n := 48) fun k hk => (he k hk).2
  rw [sg_const] at h
  exact Int.le_trans h (by decide)
/-- Roundings times a row: by the row's square and the weights. -/
theorem rnd_row {e ρ b : Nat → Int} (he : WtB e) (hρ : ∀ k, k < 48 → 2 * ab (ρ k) ≤ 1073741824) : 4 * ab (sg (fun k => ρ k * b k * e k) 48) ≤ gr b b e + 1152921504606846976 * sg e 48 := by
  have h1 : ∀ k, k < 48 → -(b k * b k * e k + 1152921504606846976 * e k) ≤ 4 * (ρ k * b k * e k) ∧ 4 * (ρ k * b k * e k) ≤ b k * b k * e k + 1152921504606846976 * e k := by
    intro k hk
    have e0 := (he k hk).1
    have q := hρ k hk
    have p1 : ab (ρ k * b k) ≤ 536870912 * ab (b k) := by rw [ab_mul]; exact Int.mul_le_mul_of_nonneg_right (by omega) (ab_bd _).1
    have p2 := sq_nn (ab (b k) - 1073741824)
    have p3 : ab (b k) * ab (b k) = b k * b k := by
      rcases (show ab (b k) = b k ∨ ab (b k) = -(b k) by unfold ab; omega) with h | h <;> rw [h]
      exact Int.neg_mul_neg _ _
    have p4 : 4 * ab (ρ k * b k) ≤ b k * b k + 1152921504606846976 := by
      have : (ab (b k) - 1073741824) * (ab (b k) - 1073741824) = ab (b k) * ab (b k) - 2147483648 * ab (b k) + 1152921504606846976 := by grind
      omega
    have p5 := Int.mul_le_mul_of_nonneg_right p4 e0
    have p6 : ab (ρ k * b k * e k) = ab (ρ k * b k) * e k := by rw [ab_mul (ρ k * b k)]; congr 1; unfold ab; omega
    have p7 : 4 * ab (ρ k * b k * e k) ≤ b k * b k * e k + 1152921504606846976 * e k := by rw [p6]; rw [Int.mul_assoc, Int.add_mul] at p5; exact p5
    have := ab_bd (ρ k * b k * e k)
    omega
  have h2 := sg_abs h1
  rw [sg_mul, sg_add, sg_mul] at h2
  have : gr b b e = sg (fun k => b k * b k * e k) 48 := rfl
  unfold ab
  omega
theorem rnd_rnd {e ρ σ : Nat → Int} (he : WtB e) (hρ : ∀ k, k < 48 → 2 * ab (ρ k) ≤ 1073741824) (hσ : ∀ k, k < 48 → 2 * ab (σ k) ≤ 1073741824) : ab (sg (fun k => ρ k * σ k * e k) 48) ≤ 288230376151711744 * sg e 48 := by
  have h1 : ∀ k, k < 48 → ab (ρ k * σ k) ≤ 288230376151711744 := fun k hk => by
    rw [ab_mul]
    have a := hρ k hk
    have b := hσ k hk
    exact Int.le_trans (Int.mul_le_mul (show ab (ρ k) ≤ 536870912 by omega) (show ab (σ k) ≤ 536870912 by omega) (ab_bd _).1 (by decide)) (by decide)
  have h2 := sg_bd (y := e) h1
  rwa [show sg (fun k => ab (e k)) 48 = sg e 48 from sg_congr fun k hk => by have := (he k hk).1; unfold ab; omega] at h2
theorem ab_mul2 {u x U X : Int} (hu : ab u ≤ U) (hx : 2 * ab x ≤ X) : 2 * ab (u * x) ≤ U * X := by
  have h0 := (ab_bd u).1
  have h1 := (ab_bd x).1
  have h2 := Int.mul_le_mul hu hx (by omega) (by omega)
  rw [ab_mul]
  have : ab u * (2 * ab x) = 2 * (ab u * ab x) := by grind
  omega
section
variable {W e : Nat → Int} {j : Nat} (he : WtB e) (hW : RwB W e j) (hd : ∃ k, k < 48 ∧ W (j * 48 + k) = 1073741824 ∧ 17179869184 ≤ e k)
/-- What is taken away from row i. -/
def tkR (W e : Nat → Int) (j i : Nat) : Nat → Int := fun k => rsh (stU W e j i * W (j * 48 + k)) 30
def lfR (W e : Nat → Int) (j i : Nat) : Nat → Int := fun k => rowF 48 W i k - tkR W e j i k
include he hW hd in
theorem pair_raw {i l : Nat} (hi : i < j) (hl : l < j) : ∃ Z1 Z2 Z3 X1 X2 X3 : Int,
    1073741824 * 1073741824 * (gr (lfR W e j i) (lfR W e j l) e - gr (rowF 48 W i) (rowF 48 W l) e + stU W e j i * stU W e j l * stD W e j) = 1073741824 * X1 + 1073741824 * X2 - X3 - 1073741824 * Z1 - 1073741824 * Z2 - Z3 ∧
    2 * ab X1 ≤ 56908316672 * 122782681640000000000000 ∧ 2 * ab X2 ≤ 56908316672 * 122782681640000000000000 ∧ 2 * ab X3 ≤ 3238556506440633155584 * 75559016647418930266112 ∧
    4 * ab Z1 ≤ gr (lfR W e j l) (lfR W e j l) e + 1217485108864830406656000000000000 ∧ 4 * ab Z2 ≤ gr (lfR W e j i) (lfR W e j i) e + 1217485108864830406656000000000000 ∧ ab Z3 ≤ 304371277216207601664000000000000 := by
  have ⟨hv, d0, d1, _⟩ := st_d he hW hd
  have hu := st_u he hW hd hi
  have ht := st_u he hW hd hl
  obtain ⟨E0, E1⟩ := sg_wt he
  have hρ : ∀ i k, 2 * ab (1073741824 * tkR W e j i k - stU W e j i * rowF 48 W j k) ≤ 1073741824 := fun i k => rsh_two _
  have core := el_core (a := rowF 48 W i) (b := rowF 48 W l) (v := rowF 48 W j) (e := e) (r := tkR W e j i) (s := tkR W e j l) (ρ := fun k => 1073741824 * tkR W e j i k - stU W e j i * rowF 48 W j k) (σ := fun k => 1073741824 * tkR W e j l k - stU W e j l * rowF 48 W j k)
    (O := 1073741824) (u := stU W e j i) (t := stU W e j l) (d := stD W e j) (εa := 1073741824 * stD W e j * stU W e j i - gr (rowF 48 W i) (rowF 48 W j) e) (εb := 1073741824 * stD W e j * stU W e j l - gr (rowF 48 W l) (rowF 48 W j) e) (εv := 1073741824 * 1073741824 * stD W e j - gr (rowF 48 W j) (rowF 48 W j) e)
    (fun k _ => by omega) (fun k _ => by omega) (by omega) (by omega) (by omega)
  have z1 := rnd_row (b := fun k => rowF 48 W l k - tkR W e j l k) he fun k _ => hρ i k
  have z2 := rnd_row (b := fun k => rowF 48 W i k - tkR W e j i k) he fun k _ => hρ l k
  have z3 := rnd_rnd he (fun k _ => hρ i k) fun k _ => hρ l k
  have x1 := ab_mul2 hu.2.1 (show 2 * ab (1073741824 * stD W e j * stU W e j l - gr (rowF 48 W l) (rowF 48 W j) e) ≤ 122782681640000000000000 by omega)
  have x2 := ab_mul2 ht.2.1 (show 2 * ab (1073741824 * stD W e j * stU W e j i - gr (rowF 48 W i) (rowF 48 W j) e) ≤ 122782681640000000000000 by omega)
  have ut : ab (stU W e j i * stU W e j l) ≤ 3238556506440633155584 := by
    rw [ab_mul]
    exact Int.le_trans (Int.mul_le_mul hu.2.1 ht.2.1 (ab_bd _).1 (by decide)) (by decide)
  have x3 := ab_mul2 ut (show 2 * ab (1073741824 * 1073741824 * stD W e j - gr (rowF 48 W j) (rowF 48 W j) e) ≤ 75559016647418930266112 by rw [show (1073741824 : Int) * 1073741824 = 1152921504606846976 from rfl]; exact hv)
  refine ⟨_, _, _, _, _, _, ?_, x1, x2, x3, Int.le_trans z1 ?_, Int.le_trans z2 ?_, Int.le_trans z3 ?_⟩
  · unfold lfR
    rw [Int.mul_add, Int.mul_sub, core]
    omega
  · unfold lfR; omega
  · unfold lfR; omega
  · omega
include he hW hd in
/-- The squares' sum of what is left of a row is no greater, but for roundings. -/
theorem pair_own {i : Nat} (hi : i < j) : gr (lfR W e j i) (lfR W e j i) e ≤ gr (rowF 48 W i) (rowF 48 W i) e + 116056878683004400771792896 := by
  obtain ⟨Z1, Z2, Z3, X1, X2, X3, h, x1, x2, x3, z1, z2, z3⟩ := pair_raw he hW hd hi hi
  have d0 := (st_d he hW hd).2.1
  have hg := (hW i (Nat.le_of_lt hi)).2
  have g0 := gr_nonneg he (rowF 48 W i)
  have g1 := gr_nonneg he (lfR W e j i)
  have q := Int.mul_nonneg (sq_nn (stU W e j i)) (show 0 ≤ stD W e j by omega)
  generalize stU W e j i * stU W e j i * stD W e j = y at *
  generalize gr (lfR W e j i) (lfR W e j i) e = G' at *
  generalize gr (rowF 48 W i) (rowF 48 W i) e = G at *
  have a1 := ab_bd X1
  have a2 := ab_bd X2
  have a3 := ab_bd X3
  have b1 := ab_bd Z1
  have b2 := ab_bd Z2
  have b3 := ab_bd Z3
  omega
include he hW hd in
theorem pair_two {i l : Nat} (hi : i < j) (hl : l < j) : ab (gr (lfR W e j i) (lfR W e j l) e - gr (rowF 48 W i) (rowF 48 W l) e + stU W e j i * stU W e j l * stD W e j) ≤ 116056878683004400771792896 := by
  obtain ⟨Z1, Z2, Z3, X1, X2, X3, h, x1, x2, x3, z1, z2, z3⟩ := pair_raw he hW hd hi hl
  have o1 := pair_own he hW hd hi
  have o2 := pair_own he hW hd hl
  have hg := (hW i (Nat.le_of_lt hi)).2
  have hg2 := (hW l (Nat.le_of_lt hl)).2
  generalize gr (lfR W e j i) (lfR W e j l) e - gr (rowF 48 W i) (rowF 48 W l) e + stU W e j i * stU W e j l * stD W e j = y at *
  generalize gr (lfR W e j i) (lfR W e j i) e = G' at *
  generalize gr (rowF 48 W i) (rowF 48 W i) e = G at *
  generalize gr (lfR W e j l) (lfR W e j l) e = F' at *
  generalize gr (rowF 48 W l) (rowF 48 W l) e = F at *
  have a1 := ab_bd X1
  have a2 := ab_bd X2
  have a3 := ab_bd X3
  have b1 := ab_bd Z1
  have b2 := ab_bd Z2
  have b3 := ab_bd Z3
  exact le_ab (by omega)
end
end Go.Proofs.Ytcombidoaghlbaa
/- All eliminations of a run: what comes out is the weighted products of the rows, within roundings. No program. -/
namespace Go.Proofs.Ytcombidoaghlbaa
/-- Row j has One where the weight is great. -/
def Nrm (W e : Nat → Int) (j : Nat) : Prop := ∃ k, k < 48 ∧ W (j * 48 + k) = 1073741824 ∧ 17179869184 ≤ e k
/-- Row j is One alone, where no other row ahead has a number. -/
def Pln (W e : Nat → Int) (j : Nat) : Prop := ∃ k0, k0 < 48 ∧ W (j * 48 + k0) = 1073741824 ∧ 1 ≤ e k0 ∧ (∀ k, k < 48 → k ≠ k0 → W (j * 48 + k) = 0) ∧ ∀ i, i < j → W (i * 48 + k0) = 0
theorem cl_orB {p : Nat → Bool} : ∀ {n : Nat}, (∀ i, i < n → p i = false) → orB p n = false
  | 0, _ => rfl
  | n + 1, h => by unfold orB; rw [cl_orB (n := n) fun i hi => h i (by omega), h n (by omega)]; rfl
theorem sg_zero {f : Nat → Int} {n : Nat} (h : ∀ k, k < n → f k = 0) : sg f n = 0 := by
  rw [sg_congr h, sg_const]; simp
theorem sg_only {f : Nat → Int} {a : Nat} : ∀ {n : Nat}, a < n → (∀ k, k < n → k ≠ a → f k = 0) → sg f n = f a
  | 0, h, _ => absurd h (Nat.not_lt_zero _)
  | n + 1, h, h0 => by
    unfold sg
    by_cases e : a = n
    · subst e; rw [sg_zero fun k hk => h0 k (by omega) (by omega)]; omega
    · rw [sg_only (n := n) (by omega) fun k hk => h0 k (by omega), h0 n (by omega) (by omega)]; omega
theorem row_lt {W e : Nat → Int} {j i k : Nat} (hi : i < j) (hk : k < 48) : elW W e j j 0 (i * 48 + k) = elV W (stU W e j i) j i k := by
  have e1 : (i * 48 + k) / 48 = i := by omega
  have e2 : (i * 48 + k) % 48 = k := by omega
  unfold elW; rw [e1, e2, if_pos (.inl hi)]
theorem row_ge {W e : Nat → Int} {j i k : Nat} (hi : j ≤ i) (hk : k < 48) : elW W e j j 0 (i * 48 + k) = W (i * 48 + k) := by
  have e1 : (i * 48 + k) / 48 = i := by omega
  unfold elW; rw [e1, if_neg (by omega)]
/-- What a stage does. -/
structure StO (W e : Nat → Int) (j : Nat) : Prop where
  flag : stageH W e j = false
  u : ∀ i, i < j → ab (stU W e j i) ≤ 56908316672
  w : ∀ i, i < j → ∀ k, k < 48 → elW W e j j 0 (i * 48 + k) = W (i * 48 + k) - rsh (stU W e j i * W (j * 48 + k)) 30
  own : ∀ i, i < j → gr (lfR W e j i) (lfR W e j i) e ≤ gr (rowF 48 W i) (rowF 48 W i) e + 116056878683004400771792896
  two : ∀ i l, i < j → l < j → ab (gr (lfR W e j i) (lfR W e j l) e - gr (rowF 48 W i) (rowF 48 W l) e + stU W e j i * stU W e j l * stD W e j) ≤ 116056878683004400771792896
section
variable {W e : Nat → Int} {j : Nat} (he : WtB e) (hW : RwB W e j)
include he hW in
theorem stage_flag (hd : dB W e j = false) (hu : ∀ i, i < j → uB W e j i = false ∧ ab (stU W e j i) ≤ 56908316672) : stageH W e j = false := by
  unfold stageH
  rw [hd, cl_orB fun k hk => (st_y he hW hk).2.1, cl_orB]; rfl
  intro i hi
  unfold rowB
  rw [(hu i hi).1, cl_orB fun k hk => (st_w hW hi hk (hu i hi).2).2]; rfl
include he hW in
theorem nrm_out (hd : Nrm W e j) : StO W e j := by
  have d := st_d he hW hd
  refine ⟨stage_flag he hW d.2.2.2 fun i hi => ⟨(st_u he hW hd hi).2.2, (st_u he hW hd hi).2.1⟩, fun i hi => (st_u he hW hd hi).2.1, fun i hi k hk => ?_, fun i hi => pair_own he hW hd hi, fun i l hi hl => pair_two he hW hd hi hl⟩
  rw [row_lt hi hk, (st_w hW hi hk (st_u he hW hd hi).2.1).1]
include he hW in
theorem pln_y {k0 : Nat} (h1 : W (j * 48 + k0) = 1073741824) (h3 : ∀ k, k < 48 → k ≠ k0 → W (j * 48 + k) = 0) {k : Nat} (hk : k < 48) : stY W e j k = if k = k0 then e k0 else 0 := by
  rw [(st_y he hW hk).1]
  by_cases h : k = k0
  · rw [if_pos h, h, h1, cl_rshmul]
  · rw [if_neg h, h3 k hk h, Int.zero_mul]; rfl
include he hW in
theorem pln_d (hd : Pln W e j) : ∃ k0, k0 < 48 ∧ stD W e j = e k0 ∧ dB W e j = false ∧ (∀ i, i < j → stU W e j i = 0 ∧ uB W e j i = false) ∧ W (j * 48 + k0) = 1073741824 := by
  obtain ⟨k0, hk0, h1, h2, h3, h4⟩ := hd
  have hy := fun {k} (hk : k < 48) => pln_y he hW h1 h3 hk
  have e0 := he k0 hk0
  have hs : sg (fun k => W (j * 48 + k) * stY W e j k) 48 = 1073741824 * e k0 := by
    rw [sg_only hk0 fun k hk hne => by rw [h3 k hk hne, Int.zero_mul], h1, hy hk0, if_pos rfl]
  have dv := dotV_sg (A := rowF 48 W j) (B := stY W e j) (n := 48) (fun k hk => ⟨sb_ab (rw_ent hW (Nat.le_refl j) hk) (by decide), (st_y he hW hk).2.2⟩) (by unfold rowF; rw [hs, cl_rshmul]; unfold SB; omega)
  have dv1 : dotV 30 (rowF 48 W j) (stY W e j) 48 = e k0 := by rw [dv.1]; unfold rowF; rw [hs, cl_rshmul]
  have vv := cl_varV (a := e k0) (by omega) (by omega)
  have hD : stD W e j = e k0 := by unfold stD; rw [dv1, vv.1]
  refine ⟨k0, hk0, hD, by unfold dB; rw [dv.2, dv1, vv.2]; rfl, fun i hi => ?_, h1⟩
  have hz : sg (fun k => W (i * 48 + k) * stY W e j k) 48 = 0 := sg_zero fun k hk => by
    rw [hy hk]
    split
    · next h => rw [h, h4 i hi, Int.zero_mul]
    · exact Int.mul_zero _
  have du := dotV_sg (A := rowF 48 W i) (B := stY W e j) (n := 48) (fun k hk => ⟨sb_ab (rw_ent hW (Nat.le_of_lt hi) hk) (by decide), (st_y he hW hk).2.2⟩) (by unfold rowF; rw [hz]; unfold SB; decide)
  have du1 : dotV 30 (rowF 48 W i) (stY W e j) 48 = 0 := by rw [du.1]; unfold rowF; rw [hz]; rfl
  have r0 : rdiv (0 * 1073741824) (e k0) = 0 := by rw [Int.zero_mul]; exact cl_rdiv0 (by omega)
  have q := cl_divV (a := 0) (b := e k0) (by unfold SB; decide) (by unfold SB; omega) (by omega) (by rw [r0]; unfold SB; decide)
  exact ⟨by unfold stU; rw [du1, hD, q.1, r0], by unfold uB; rw [du.2, du1, hD, q.2]; rfl⟩
include he hW in
theorem pln_out (hd : Pln W e j) : StO W e j := by
  obtain ⟨k0, hk0, hD, hB, hu, h1⟩ := pln_d he hW hd
  have hl : ∀ i, i < j → lfR W e j i = rowF 48 W i := fun i hi => by
    funext k
    unfold lfR tkR
    rw [(hu i hi).1, Int.zero_mul, show rsh 0 30 = 0 by decide, Int.sub_zero]
  refine ⟨stage_flag he hW hB fun i hi => ⟨(hu i hi).2, by rw [(hu i hi).1]; decide⟩, fun i hi => by rw [(hu i hi).1]; decide, fun i hi k hk => ?_, fun i hi => ?_, fun i l hi hl2 => ?_⟩
  · rw [row_lt hi hk, (st_w hW hi hk (by rw [(hu i hi).1]; decide)).1]
  · rw [hl i hi]; omega
  · rw [hl i hi, hl l hl2, (hu i hi).1]
    simp [ab]
end
/-- The multiple of the row of stage m in row i, and that row's variance. -/
def UU (W e : Nat → Int) (i m : Nat) : Int := stU (WN W e m) e (23 - m) i
def DD (W e : Nat → Int) (m : Nat) : Int := stD (WN W e m) e (23 - m)
/-- What all stages ahead took of the product of rows i and l. -/
def SS (W e : Nat → Int) (i l n : Nat) : Int := sg (fun m => UU W e i m * UU W e l m * DD W e m) n
structure RnI (W e : Nat → Int) (n : Nat) : Prop where
  flag : HN W e n = false
  own : ∀ i, i < 24 - n → gr (rowF 48 (WN W e n) i) (rowF 48 (WN W e n) i) e ≤ gr (rowF 48 W i) (rowF 48 W i) e + n * 116056878683004400771792896
  two : ∀ i l, i < 24 - n → l < 24 - n → ab (gr (rowF 48 (WN W e n) i) (rowF 48 (WN W e n) l) e - gr (rowF 48 W i) (rowF 48 W l) e + SS W e i l n) ≤ n * 116056878683004400771792896
theorem run_step {W e : Nat → Int} {n : Nat} (hn : n < 24) (I : RnI W e n) (S : StO (WN W e n) e (23 - n)) : RnI W e (n + 1) := by
  have hrow : ∀ i, i < 24 - (n + 1) → gr (rowF 48 (WN W e (n + 1)) i) = gr (lfR (WN W e n) e (23 - n) i) → True := fun _ _ _ => trivial
  clear hrow
  have hr : ∀ i, i < 23 - n → ∀ k, k < 48 → rowF 48 (WN W e (n + 1)) i k = lfR (WN W e n) e (23 - n) i k := fun i hi k hk => S.w i hi k hk
  have hg : ∀ i l, i < 23 - n → l < 23 - n → gr (rowF 48 (WN W e (n + 1)) i) (rowF 48 (WN W e (n + 1)) l) e = gr (lfR (WN W e n) e (23 - n) i) (lfR (WN W e n) e (23 - n) l) e := fun i l hi hl => sg_congr fun k hk => by rw [hr i hi k hk, hr l hl k hk]
  refine ⟨?_, fun i hi => ?_, fun i l hi hl => ?_⟩
  · show (HN W e n || stageH (WN W e n) e (23 - n)) = false
    rw [I.flag, S.flag]; rfl
  · rw [hg i i (by omega) (by omega)]
    have a := S.own i (by omega)
    have b := I.own i (by omega)
    rw [Int.natCast_add, Int.add_mul]
    omega
  · rw [hg i l (by omega) (by omega)]
    have a := S.two i l (by omega) (by omega)
    have b := I.two i l (by omega) (by omega)
    have e1 : SS W e i l (n + 1) = SS W e i l n + stU (WN W e n) e (23 - n) i * stU (WN W e n) e (23 - n) l * stD (WN W e n) e (23 - n) := rfl
    have c := ab_add (gr (lfR (WN W e n) e (23 - n) i) (lfR (WN W e n) e (23 - n) l) e - gr (rowF 48 (WN W e n) i) (rowF 48 (WN W e n) l) e + stU (WN W e n) e (23 - n) i * stU (WN W e n) e (23 - n) l * stD (WN W e n) e (23 - n)) (gr (rowF 48 (WN W e n) i) (rowF 48 (WN W e n) l) e - gr (rowF 48 W i) (rowF 48 W l) e + SS W e i l n)
    rw [e1, Int.natCast_add, Int.add_mul]
    refine Int.le_trans (Int.le_of_eq ?_) (Int.le_trans c (Int.le_trans (Int.add_le_add a b) (Int.le_of_eq ?_)))
    · congr 1; omega
    · omega
/-- What a run needs: P tells more of the rows, from which their sizes come. -/
structure RunH (W e : Nat → Int) (P : Nat → Prop) : Prop where
  he : WtB e
  p0 : P 0
  g : ∀ i, i < 24 → gr (rowF 48 W i) (rowF 48 W i) e ≤ 50700000000000000000000000000000
  hN : ∀ n, n < 24 → P n → (∀ i, i ≤ 23 - n → gr (rowF 48 (WN W e n) i) (rowF 48 (WN W e n) i) e ≤ 50706024009129176059868128215040) → ∀ i, i ≤ 23 - n → sg (fun k => ab (WN W e n (i * 48 + k))) 48 ≤ 50000000000000
  hS : ∀ n, n < 24 → P n → Nrm (WN W e n) e (23 - n) ∨ Pln (WN W e n) e (23 - n)
  hP : ∀ n, n < 24 → P n → RwB (WN W e n) e (23 - n) → StO (WN W e n) e (23 - n) → P (n + 1)
theorem RunH.rw {W e : Nat → Int} {P : Nat → Prop} (H : RunH W e P) {n : Nat} (hn : n < 24) (p : P n) (I : RnI W e n) : RwB (WN W e n) e (23 - n) := by
  have g : ∀ i, i ≤ 23 - n → gr (rowF 48 (WN W e n) i) (rowF 48 (WN W e n) i) e ≤ 50706024009129176059868128215040 := fun i hi => by
    have a := I.own i (by omega)
    have b := H.g i (by omega)
    omega
  exact fun i hi => ⟨H.hN n hn p g i hi, g i hi⟩
theorem RunH.all {W e : Nat → Int} {P : Nat → Prop} (H : RunH W e P) : ∀ n, n ≤ 24 → P n ∧ RnI W e n
  | 0, _ => ⟨H.p0, rfl, fun i hi => by show gr (rowF 48 W i) (rowF 48 W i) e ≤ _; omega, fun i l _ _ => by
      show ab (gr (rowF 48 W i) (rowF 48 W l) e - gr (rowF 48 W i) (rowF 48 W l) e + 0) ≤ _
      simp [ab]⟩
  | n + 1, hn => by
    obtain ⟨p, I⟩ := H.all n (by omega)
    have hW := H.rw (by omega) p I
    have S : StO (WN W e n) e (23 - n) := (H.hS n (by omega) p).elim (nrm_out H.he hW) (pln_out H.he hW)
    exact ⟨H.hP n (by omega) p hW S, run_step (by omega) I S⟩
theorem RunH.st {W e : Nat → Int} {P : Nat → Prop} (H : RunH W e P) {n : Nat} (hn : n < 24) : P n ∧ RnI W e n ∧ RwB (WN W e n) e (23 - n) ∧ StO (WN W e n) e (23 - n) := by
  obtain ⟨p, I⟩ := H.all n (by omega)
  have hW := H.rw (by omega) p I
  exact ⟨p, I, hW, (H.hS n (by omega) p).elim (nrm_out H.he hW) (pln_out H.he hW)⟩
/-- The variances and multiples of a run are small. -/
theorem RunH.dd {W e : Nat → Int} {P : Nat → Prop} (H : RunH W e P) {n : Nat} (hn : n < 24) : 1 ≤ DD W e n ∧ DD W e n ≤ 43980465190000 := by
  obtain ⟨p, I, hW, S⟩ := H.st hn
  rcases H.hS n hn p with h | h
  · have := st_d H.he hW h
    unfold DD; omega
  · obtain ⟨k0, hk0, h1, _, _, _⟩ := pln_d H.he hW h
    obtain ⟨k1, hk1, h2, h3, h4, _⟩ := h
    unfold DD
    have := H.he k0 hk0
    rw [h1]
    have : 1 ≤ e k0 := by
      by_cases h5 : k0 = k1
      · rw [h5]; exact h3
      · obtain ⟨k2, hk2, h6, _, _, h7⟩ := pln_d H.he hW ⟨k1, hk1, h2, h3, h4, by assumption⟩
        have d : 1 ≤ stD (WN W e n) e (23 - n) := by unfold stD varV clampV; split; omega; split; omega; split; omega; omega
        omega
    omega
theorem RunH.uu {W e : Nat → Int} {P : Nat → Prop} (H : RunH W e P) {n i : Nat} (hi : i < 23 - n) (hn : n < 24) : ab (UU W e i n) ≤ 56908316672 := (H.st hn).2.2.2.u i hi
/-- What comes out for rows i and l, i not behind l. -/
theorem RunH.pair {W e : Nat → Int} {P : Nat → Prop} (H : RunH W e P) {i l : Nat} (hi : i ≤ l) (hl : l < 24) (hd : Nrm (WN W e (23 - l)) e l) :
    ab (1073741824 * (if i = l then 1073741824 else UU W e i (23 - l)) * DD W e (23 - l) + SS W e i l (23 - l) - gr (rowF 48 W i) (rowF 48 W l) e) ≤ 24 * 116056878683004400771792896 := by
  obtain ⟨p, I, hW, S⟩ := H.st (n := 23 - l) (by omega)
  have e1 : 23 - (23 - l) = l := by omega
  rw [e1] at hW S
  have two := I.two i l (by omega) (by omega)
  have key : 2 * ab (1073741824 * (if i = l then 1073741824 else UU W e i (23 - l)) * DD W e (23 - l) - gr (rowF 48 (WN W e (23 - l)) i) (rowF 48 (WN W e (23 - l)) l) e) ≤ 75559016647418930266112 + 1073741824 * 43980465190000 := by
    have d := st_d H.he hW hd
    unfold DD UU
    rw [e1]
    by_cases h : i = l
    · subst h
      rw [if_pos rfl]
      have : (1073741824 : Int) * 1073741824 = 1152921504606846976 := rfl
      rw [this]
      omega
    · rw [if_neg h]
      have u := (st_u H.he hW hd (i := i) (by omega)).1
      rw [Int.mul_assoc, Int.mul_comm (stU _ _ _ _), ← Int.mul_assoc]
      omega
  obtain ⟨X, hX⟩ : ∃ X, 1073741824 * (if i = l then 1073741824 else UU W e i (23 - l)) * DD W e (23 - l) = X := ⟨_, rfl⟩
  rw [hX] at key ⊢
  have a := ab_bd (X - gr (rowF 48 (WN W e (23 - l)) i) (rowF 48 (WN W e (23 - l)) l) e)
  have b := ab_bd (gr (rowF 48 (WN W e (23 - l)) i) (rowF 48 (WN W e (23 - l)) l) e - gr (rowF 48 W i) (rowF 48 W l) e + SS W e i l (23 - l))
  exact le_ab (by omega)
end Go.Proofs.Ytcombidoaghlbaa
/- What a run puts out, and what At tells of it. No program beyond the numbers' names. -/
namespace Go.Proofs.Ytcombidoaghlbaa
theorem cl_tri {j k : Nat} (hj : j < 24) (hk : k < j) : k * (k - 1) / 2 + k ≤ j * (j - 1) / 2 := by
  have : ∀ j : Fin 24, ∀ k : Fin 24, k.val < j.val → k.val * (k.val - 1) / 2 + k.val ≤ j.val * (j.val - 1) / 2 := by decide
  exact this ⟨j, hj⟩ ⟨k, by omega⟩ hk
theorem pl_ne {i j i' j' : Nat} (hi : i < j) (hj : j < 24) (hi' : i' < j') (hj' : j' < 24) (h : ¬ (i = i' ∧ j = j')) : pl i j ≠ pl i' j' := by
  unfold pl
  by_cases e : j = j'
  · subst e; omega
  · by_cases e2 : j < j'
    · have := cl_tri hj' e2; omega
    · have := cl_tri hj (show j' < j by omega); omega
theorem outI_u (O W e : Nat → Int) {j : Nat} (hj : j < 24) {i l : Nat} (hi : i < l) (hl : l < 24) : ∀ m, m ≤ j → outI O W e j m (pl i l) = if l = j ∧ i < m then stU W e j i else O (pl i l)
  | 0, _ => by
    have := pl_lt (i := i) (j := l) hi hl
    simp only [outI, upd]
    rw [if_neg (by omega), if_neg (by omega)]
  | m + 1, hm => by
    have ih := outI_u O W e hj hi hl m (by omega)
    simp only [outI, upd]
    by_cases h : i = m ∧ l = j
    · obtain ⟨rfl, rfl⟩ := h
      rw [if_pos rfl, if_pos (by omega)]
    · rw [if_neg (pl_ne hi hl (by omega) hj h), ih]
      by_cases h2 : l = j ∧ i < m
      · rw [if_pos h2, if_pos (by omega)]
      · rw [if_neg h2, if_neg (by omega)]
theorem ON_vals (W e : Nat → Int) : ∀ n, n ≤ 24 → (∀ j, 24 - n ≤ j → j < 24 → ON W e n (276 + j) = DD W e (23 - j)) ∧ ∀ i l, i < l → 24 - n ≤ l → l < 24 → ON W e n (pl i l) = UU W e i (23 - l)
  | 0, _ => ⟨fun j h1 h2 => by omega, fun i l _ h1 h2 => by omega⟩
  | n + 1, hn => by
    obtain ⟨h1, h2⟩ := ON_vals W e n (by omega)
    obtain ⟨_, g2, g3⟩ := outI_good (ON W e n) (WN W e n) e (j := 23 - n) (by omega) (23 - n) (Nat.le_refl _)
    refine ⟨fun j hj hj2 => ?_, fun i l hi hl hl2 => ?_⟩
    · simp only [ON]
      by_cases e1 : j = 23 - n
      · subst e1
        rw [g3, show 23 - (23 - n) = n by omega]; rfl
      · rw [g2 j e1]; exact h1 j (by omega) hj2
    · simp only [ON]
      rw [outI_u (ON W e n) (WN W e n) e (by omega) hi hl2 (23 - n) (Nat.le_refl _)]
      by_cases e1 : l = 23 - n
      · subst e1
        rw [if_pos ⟨rfl, hi⟩, show 23 - (23 - n) = n by omega]; rfl
      · rw [if_neg (by omega)]; exact h2 i l hi (by omega) hl2
theorem sg_shift (f : Nat → Int) : ∀ n, sg f (n + 1) = f 0 + sg (fun k => f (k + 1)) n
  | 0 => by simp [sg]
  | n + 1 => by
    have h := sg_shift f n
    show sg f (n + 1) + f (n + 1) = f 0 + (sg (fun k => f (k + 1)) n + f (n + 1))
    omega
theorem sg_rev (f : Nat → Int) : ∀ n, sg f n = sg (fun k => f (n - 1 - k)) n
  | 0 => rfl
  | n + 1 => by
    rw [sg_shift (fun k => f (n + 1 - 1 - k))]
    show sg f n + f n = _
    rw [sg_rev f n]
    have : sg (fun k => f (n + 1 - 1 - (k + 1))) n = sg (fun k => f (n - 1 - k)) n := sg_congr fun k _ => by congr 1; omega
    rw [this]
    simp only [Nat.add_sub_cancel, Nat.sub_zero]
    omega
/-- At's rounded sum, told by the exact one. -/
theorem at_err {u x d : Nat → Int} {n : Nat} {B T : Int} (hu : ∀ q, q < n → ab (u q) ≤ B) (hx : ∀ q, q < n → SB (u q) ∧ SB (x q) ∧ SB (d q) ∧ SB (rsh (x q * d q) 30)) (hB : (n : Int) * B ≤ T) (hs : ab (sg (fun q => u q * x q * d q) n) ≤ 1152921504606846976 * 1000000000000000 - 1073741824 * T) :
    ab (1152921504606846976 * dotV 30 u (fun q => mulV (x q) (d q) 30) n - sg (fun q => u q * x q * d q) n) ≤ 536870912 * T + 576460752303423488 ∧ dotH 30 u (fun q => mulV (x q) (d q) 30) n = false ∧ (∀ q, q < n → mulH (x q) (d q) 30 = false) := by
  have hm : ∀ q, q < n → mulV (x q) (d q) 30 = rsh (x q * d q) 30 ∧ mulH (x q) (d q) 30 = false := fun q hq => mulV_of (hx q hq).2.1 (hx q hq).2.2.1 (hx q hq).2.2.2
  have e1 : 1073741824 * sg (fun q => u q * mulV (x q) (d q) 30) n = sg (fun q => (1073741824 * rsh (x q * d q) 30 - x q * d q) * u q) n + sg (fun q => u q * x q * d q) n := by
    rw [← sg_mul, ← sg_add]
    exact sg_congr fun q hq => by rw [(hm q hq).1]; grind
  have b1 : ∀ q, q < n → ab (1073741824 * rsh (x q * d q) 30 - x q * d q) ≤ 536870912 := fun q _ => by have := rsh_two (x q * d q); omega
  have b2 := sg_bd (y := u) b1
  have b3 := sg_le (f := fun q => ab (u q)) (g := fun _ => B) (n := n) hu
  rw [sg_const] at b3
  have hsb : SB (rsh (sg (fun q => u q * mulV (x q) (d q) 30) n) 30) := by
    have := rsh_err (sg (fun q => u q * mulV (x q) (d q) 30) n)
    have c1 := ab_bd (sg (fun q => (1073741824 * rsh (x q * d q) 30 - x q * d q) * u q) n)
    have c2 := ab_bd (sg (fun q => u q * x q * d q) n)
    have c3 := sg_nonneg (f := fun q => ab (u q)) (n := n) fun q _ => (ab_bd _).1
    unfold SB
    omega
  have dv := dotV_sg (A := u) (B := fun q => mulV (x q) (d q) 30) (n := n) (fun q hq => ⟨(hx q hq).1, by rw [(hm q hq).1]; exact (hx q hq).2.2.2⟩) hsb
  refine ⟨?_, dv.2, fun q hq => (hm q hq).2⟩
  rw [dv.1]
  have := rsh_err (sg (fun q => u q * mulV (x q) (d q) 30) n)
  have c1 := ab_bd (sg (fun q => (1073741824 * rsh (x q * d q) 30 - x q * d q) * u q) n)
  exact le_ab (by omega)
/-- The numbers of a run, and of At. -/
structure RunO (W e f : Nat → Int) : Prop where
  d : ∀ j, j < 24 → f (276 + j) = DD W e (23 - j)
  u : ∀ i l, i < l → l < 24 → f (pl i l) = UU W e i (23 - l)
theorem run_o (W e : Nat → Int) : RunO W e (ON W e 24) := by
  have h := ON_vals W e 24 (Nat.le_refl _)
  exact ⟨fun j hj => h.1 j (by omega) hj, fun i l hi hl => h.2 i l hi (by omega) hl⟩
end Go.Proofs.Ytcombidoaghlbaa
/- The covariance that factors tell: exactly, by At, by a run. No program beyond the numbers' names. -/
namespace Go.Proofs.Ytcombidoaghlbaa
/-- A number of the covariance, exactly (in units of 2^-60). -/
def PP (f : Nat → Int) (k m : Nat) : Int := sg (fun p => uV f k p * uV f m p * f (276 + p)) 24
theorem PP_comm (f : Nat → Int) (k m : Nat) : PP f k m = PP f m k := sg_congr fun p _ => by rw [Int.mul_comm (uV f k p)]
theorem sg_tail {g : Nat → Int} {m : Nat} : ∀ {n : Nat}, m ≤ n → (∀ p, p < m → g p = 0) → sg g n = sg (fun q => g (m + q)) (n - m)
  | n, h, h0 => by
    by_cases e : n = m
    · subst e; rw [Nat.sub_self, sg_zero h0]; rfl
    · obtain ⟨k, rfl⟩ : ∃ k, n = k + 1 := ⟨n - 1, by omega⟩
      have ih := sg_tail (n := k) (by omega) h0
      rw [show k + 1 - m = (k - m) + 1 by omega]
      unfold sg
      rw [ih, show m + (k - m) = k by omega]
theorem uV_low {f : Nat → Int} {a p : Nat} (h : p < a) : uV f a p = 0 := by unfold uV; rw [if_neg (by omega), if_neg (by omega)]
theorem uV_self (f : Nat → Int) (a : Nat) : uV f a a = 1073741824 := by unfold uV; rw [if_pos rfl]
theorem uV_up {f : Nat → Int} {a p : Nat} (h : a < p) : uV f a p = f (pl a p) := by unfold uV; rw [if_neg (by omega), if_pos h]
theorem at_pp {f : Nat → Int} {i j : Nat} {B : Int} (hi : i < 24) (hj : j < 24) (hB : ∀ a p, a < 24 → p < 24 → ab (uV f a p) ≤ B) (hB2 : B ≤ 56908316672) (hd : ∀ p, p < 24 → 0 ≤ f (276 + p) ∧ f (276 + p) ≤ 43980465190000)
    (hs : ab (PP f i j) ≤ 1150000000000000000000000000000000) : ab (1152921504606846976 * atV f i j - PP f i j) ≤ 12884901888 * B + 576460752303423488 ∧ atH f i j = false := by
  have hm : max i j < 24 := by omega
  have b0 : 0 ≤ B := Int.le_trans (ab_bd _).1 (hB 0 0 (by decide) (by decide))
  have e1 : PP f i j = sg (fun q => atU f i (max i j) q * uV f j (max i j + q) * f (276 + (max i j + q))) (24 - max i j) := by
    unfold PP
    rw [sg_tail (m := max i j) (by omega) fun p hp => ?_]
    · rfl
    · by_cases h : p < i
      · rw [uV_low h, Int.zero_mul, Int.zero_mul]
      · rw [uV_low (show p < j by omega), Int.mul_zero, Int.zero_mul]
  have hx : ∀ q, q < 24 - max i j → SB (atU f i (max i j) q) ∧ SB (uV f j (max i j + q)) ∧ SB (f (276 + (max i j + q))) ∧ SB (rsh (uV f j (max i j + q) * f (276 + (max i j + q))) 30) := by
    intro q hq
    have h1 := hB i (max i j + q) hi (by omega)
    have h2 := hB j (max i j + q) hj (by omega)
    have h3 := hd (max i j + q) (by omega)
    refine ⟨sb_ab h1 (by omega), sb_ab h2 (by omega), by unfold SB; omega, sb_ab (rsh_ab (m := 2330964655070000) ?_) (by decide)⟩
    rw [ab_mul]
    exact Int.le_trans (Int.mul_le_mul (Int.le_trans h2 hB2) (show ab (f (276 + (max i j + q))) ≤ 43980465190000 from le_ab (by omega)) (ab_bd _).1 (by decide)) (by decide)
  have h := at_err (T := 24 * B) (fun q hq => hB i (max i j + q) hi (by omega)) hx (Int.mul_le_mul_of_nonneg_right (by omega) b0) (by
    have : sg (fun q => uV f i (max i j + q) * uV f j (max i j + q) * f (276 + (max i j + q))) (24 - max i j) = PP f i j := e1.symm
    rw [this]; omega)
  have e2 : sg (fun q => uV f i (max i j + q) * uV f j (max i j + q) * f (276 + (max i j + q))) (24 - max i j) = PP f i j := e1.symm
  rw [e2] at h
  refine ⟨?_, ?_⟩
  · have : atV f i j = dotV 30 (fun q => uV f i (max i j + q)) (fun q => mulV (uV f j (max i j + q)) (f (276 + (max i j + q))) 30) (24 - max i j) := rfl
    rw [this]
    omega
  · unfold atH
    have : dotH 30 (atU f i (max i j)) (atX f j (max i j)) (24 - max i j) = false := h.2.1
    rw [this, cl_orB (p := atB f j (max i j)) fun q hq => h.2.2 q hq]; rfl
section
variable {W e f : Nat → Int} {P : Nat → Prop} (H : RunH W e P) (O : RunO W e f)
include H O in
theorem run_small : (∀ a p, a < 24 → p < 24 → ab (uV f a p) ≤ 56908316672) ∧ ∀ p, p < 24 → 0 ≤ f (276 + p) ∧ f (276 + p) ≤ 43980465190000 := by
  refine ⟨fun a p ha hp => ?_, fun p hp => ?_⟩
  · by_cases h : p < a
    · rw [uV_low h]; decide
    · by_cases h2 : a = p
      · subst h2; rw [uV_self]; decide
      · rw [uV_up (by omega), O.u a p (by omega) hp]
        exact H.uu (by omega) (by omega)
  · have := H.dd (n := 23 - p) (by omega)
    rw [O.d p hp]; omega
include O in
theorem run_pp {i l : Nat} (hi : i ≤ l) (hl : l < 24) : PP f i l = 1073741824 * (if i = l then 1073741824 else UU W e i (23 - l)) * DD W e (23 - l) + SS W e i l (23 - l) := by
  unfold PP
  rw [sg_tail (m := l) (by omega) fun p hp => by rw [uV_low (a := l) hp, Int.mul_zero, Int.zero_mul], show 24 - l = (23 - l) + 1 by omega, sg_shift]
  have e1 : SS W e i l (23 - l) = sg (fun k => uV f i (l + (k + 1)) * uV f l (l + (k + 1)) * f (276 + (l + (k + 1)))) (23 - l) := by
    unfold SS
    rw [sg_rev]
    refine sg_congr fun k hk => ?_
    rw [uV_up (show i < l + (k + 1) by omega), uV_up (show l < l + (k + 1) by omega), O.u i _ (by omega) (by omega), O.u l _ (by omega) (by omega), O.d _ (by omega), show 23 - (l + (k + 1)) = 23 - l - 1 - k by omega]
  rw [e1, Nat.add_zero, uV_self, O.d l hl]
  by_cases h : i = l
  · rw [if_pos h, h, uV_self]
  · rw [if_neg h, uV_up (by omega), O.u i l (by omega) hl, Int.mul_comm (UU W e i (23 - l))]
include H O in
/-- What At tells of a run's factors: the weighted products of the rows. -/
theorem run_at {i l : Nat} (hi : i ≤ l) (hl : l < 24) (hd : Nrm (WN W e (23 - l)) e l) :
    ab (1152921504606846976 * atV f i l - gr (rowF 48 W i) (rowF 48 W l) e) ≤ 25 * 116056878683004400771792896 ∧ atH f i l = false ∧ ab (1152921504606846976 * atV f l i - gr (rowF 48 W i) (rowF 48 W l) e) ≤ 25 * 116056878683004400771792896 ∧ atH f l i = false := by
  have p := H.pair hi hl hd
  rw [← run_pp O hi hl] at p
  have s := run_small H O
  have g1 := H.g i (by omega)
  have g2 := H.g l hl
  have g3 := gr_two (rowF 48 W i) (rowF 48 W l) e (fun k hk => (H.he k hk).1) 1
  have q := ab_bd (2 * 1 * gr (rowF 48 W i) (rowF 48 W l) e)
  have q2 := ab_bd (PP f i l - gr (rowF 48 W i) (rowF 48 W l) e)
  have b : ab (PP f i l) ≤ 1150000000000000000000000000000000 := le_ab (by omega)
  have a1 := at_pp (by omega) hl s.1 (Int.le_refl _) s.2 b
  have a2 := at_pp (i := l) (j := i) hl (by omega) s.1 (Int.le_refl _) s.2 (by rw [PP_comm]; exact b)
  rw [PP_comm f l i] at a2
  have c1 := ab_bd (1152921504606846976 * atV f i l - PP f i l)
  have c2 := ab_bd (1152921504606846976 * atV f l i - PP f i l)
  exact ⟨le_ab (by omega), a1.2, le_ab (by omega), a2.2⟩
end
end Go.Proofs.Ytcombidoaghlbaa
/- thornton.Step of variances alone: place by velocity (plain law, 2): the numbers that come out. No program. -/
namespace Go.Proofs.Ytcombidoaghlbaa
section
variable {f : Nat → Int} (hf : DiagF f) {a b : Nat} (ha : a < 24) (hb : b < 24) (hab : a ≠ b) {t : Int} (ht : SB t)
end
end Go.Proofs.Ytcombidoaghlbaa
