/- thornton.Step of variances alone: place by velocity (plain law, 3): the one stage that does something. No program. -/
import Derived.Test.YtomcniampdpnhaaMove
namespace Go.Proofs.Ytomcniampdpnhaa
/-- The numbers of the stage: y, D of the place, u, what is left of One. -/
structure MvN (t A B : Int) where
  y : Int
  D : Int
  u : Int
  w : Int
  G : Int
def mvY (t A : Int) : Int := mulV t A 30
def mvD (t A B : Int) : Int := varV (satV (rsh (t * mvY t A + 1073741824 * B) 30))
def mvU (t A B : Int) : Int := divV (mvY t A) (mvD t A B) 30
def mvL (t A B : Int) : Int := subV 1073741824 (mulV (mvU t A B) t 30)
def mvS (t A B : Int) : Int := mvL t A B * mulV (mvL t A B) A 30 + (-(mvU t A B)) * mulV (-(mvU t A B)) B 30
def mvG (t A B : Int) : Int := varV (satV (rsh (mvS t A B) 30))
def mvV (t A B : Int) : Nat → Int := fun x =>
  if x / 48 = 4 then (if x % 48 = 4 then mvL t A B else if x % 48 = 7 ∨ x % 48 = 31 then -(mvU t A B) else if x % 48 = 28 then 1073741824 else 0) else mvW 7 4 t x
theorem rsh_neg2 (t : Int) : rsh (t * -1073741824) 30 = -t := by rw [Int.mul_neg, rsh_neg1, rsh_one]
theorem mulV_oner {e : Int} (h : SB e) : mulV e 1073741824 30 = e := by rw [mulV_comm]; exact mulV_one h.1 h.2
theorem mulH_oner {e : Int} (h : SB e) : mulH e 1073741824 30 = false := by rw [mulH_comm]; exact mulH_one h.1 h.2
theorem sb_neg {x : Int} (h : SB x) : SB (-x) := by unfold SB at *; omega
theorem subV_0l {u : Int} (h : SB u) : subV 0 u = -u ∧ subH 0 u = false := by
  have h1 := sb_neg h
  unfold subV subH
  rw [satV_0, satV_sb h, show (0 : Int) - u = -u by omega, satV_sb h1, satH_0, satH_sb h, satH_sb h1]; exact ⟨rfl, rfl⟩
theorem subV_of {a b : Int} (ha : SB a) (hb : SB b) (h : SB (a - b)) : subV a b = a - b ∧ subH a b = false := by
  unfold subV subH
  rw [satV_sb ha, satV_sb hb, satV_sb h, satH_sb ha, satH_sb hb, satH_sb h]; exact ⟨rfl, rfl⟩
theorem sb_mulV (a b s : Int) : SB (mulV a b s) := by
  unfold mulV; split
  · exact sb_0
  · exact satV_bd _
theorem sb_divV (a b s : Int) : SB (divV a b s) := divV_bd a b s
theorem sb_subV (a b : Int) : SB (subV a b) := by unfold subV; exact satV_bd _
theorem sb_e {e : Nat → Int} (he2 : ∀ j, j < 24 → 1 ≤ e j ∧ e j ≤ 72057594037927936) (he3 : ∀ j, j < 24 → e (24 + j) = 0) (k : Nat) (hk : k < 48) : SB (e k) := by
  by_cases h : k < 24
  · have := he2 k h; unfold SB; omega
  · have := he3 (k - 24) (by omega)
    rw [show 24 + (k - 24) = k by omega] at this
    rw [this]; exact sb_0
section
variable {e : Nat → Int} (he2 : ∀ j, j < 24 → 1 ≤ e j ∧ e j ≤ 72057594037927936) (he3 : ∀ j, j < 24 → e (24 + j) = 0) {t : Int} (ht : SB t)
variable {W : Nat → Int} (hW : ∀ x, x < 1152 → W x = mvW 7 4 t x)
theorem mvW_sb (ht : SB t) (x : Nat) : SB (mvW 7 4 t x) := by
  unfold mvW; split
  · exact ht
  · exact idW_bd x
theorem mvW7 {t : Int} {k : Nat} (hk : k < 48) : mvW 7 4 t (7 * 48 + k) = if k = 4 then t else if k = 7 ∨ k = 31 then 1073741824 else 0 := by
  rw [mvW_at (by decide) hk]; simp only [true_and]
theorem mvWo {t : Int} {i k : Nat} (hi : i ≠ 7) (hk : k < 48) : mvW 7 4 t (i * 48 + k) = if k = i ∨ k = 24 + i then 1073741824 else 0 := by
  rw [mvW_at (by decide) hk, if_neg (by omega)]
include he2 he3 hW in
theorem mv7_Y {k : Nat} (hk : k < 48) : stY W e 7 k = (if k = 7 then e 7 else if k = 4 then mvY t (e 4) else 0) ∧ yB W e 7 k = (if k = 4 then mulH t (e 4) 30 else false) := by
  have h7 := he2 7 (by decide)
  have hsb := sb_e he2 he3 k hk
  unfold stY yB
  rw [hW (7 * 48 + k) (by omega), mvW7 hk]
  by_cases e4 : k = 4
  · subst e4
    rw [if_pos rfl, if_neg (by decide), if_pos rfl, if_pos rfl]; exact ⟨rfl, rfl⟩
  · rw [if_neg e4, if_neg e4, if_neg e4]
    by_cases e7 : k = 7
    · subst e7
      rw [if_pos (.inl rfl), if_pos rfl]; exact ⟨mulV_one (by omega) (by omega), mulH_one (by omega) (by omega)⟩
    · rw [if_neg e7]
      by_cases e31 : k = 31
      · subst e31
        rw [if_pos (.inr rfl), he3 7 (by decide)]; decide
      · rw [if_neg (by omega)]; exact ⟨mulV_0 _, mulH_0 hsb.1 hsb.2⟩
include he2 he3 ht hW in
theorem mv7_dot {i : Nat} (hi : i ≤ 7) : dotS (rowF 48 W i) (stY W e 7) 48 = if i = 7 then t * mvY t (e 4) + 1073741824 * e 7 else if i = 4 then 1073741824 * mvY t (e 4) else 0 := by
  have h7 := he2 7 (by decide)
  have hy : SB (mvY t (e 4)) := sb_mulV _ _ _
  have hr : ∀ k, k < 48 → rowF 48 W i k = if i = 7 ∧ k = 4 then t else if k = i ∨ k = 24 + i then 1073741824 else 0 := fun k hk => by
    simp only [rowF]; rw [hW _ (by omega), mvW_at (by decide) hk]
  rw [dotS_2 (a := 4) (b := 7) (by decide) (by decide) (by decide)]
  · rw [(mv7_Y he2 he3 hW (by decide)).1, (mv7_Y he2 he3 hW (k := 7) (by decide)).1, if_neg (by decide), if_pos rfl, if_pos rfl, satV_sb hy, satV_id (a := e 7) (by omega) (by omega), hr 4 (by decide), hr 7 (by decide)]
    by_cases e7 : i = 7
    · subst e7
      rw [if_pos ⟨rfl, rfl⟩, if_neg (by decide), if_pos (.inl rfl), if_pos rfl, satV_sb ht, satV_one]
    · rw [if_neg (show ¬ (i = 7 ∧ 4 = 4) by omega), if_neg (show ¬ (i = 7 ∧ 7 = 4) by omega), if_neg e7, if_neg (show ¬ (7 = i ∨ 7 = 24 + i) by omega), satV_0, Int.zero_mul, Int.add_zero]
      by_cases e4 : i = 4
      · subst e4
        rw [if_pos (.inl rfl), if_pos rfl, satV_one]
      · rw [if_neg (by omega), if_neg e4, satV_0, Int.zero_mul]
  · intro k hk h1 h2
    right
    rw [(mv7_Y he2 he3 hW hk).1, if_neg h2, if_neg h1]
include he2 he3 ht hW in
theorem mv7_dotB {i : Nat} (hi : i ≤ 7) : dotB (rowF 48 W i) (stY W e 7) 48 = false := by
  have h7 := he2 7 (by decide)
  refine dotB_no fun k hk => ⟨?_, ?_⟩
  · simp only [rowF]; rw [hW _ (by omega)]; exact satH_sb (mvW_sb ht _)
  · rw [(mv7_Y he2 he3 hW hk).1]
    split
    · exact satH_no (by omega) (by omega)
    · split
      · exact satH_sb (sb_mulV _ _ _)
      · exact satH_0
include he2 he3 ht hW in
theorem mv7_D : stD W e 7 = mvD t (e 4) (e 7) := by
  unfold stD dotV
  rw [if_neg (by decide), mv7_dot he2 he3 ht hW (Nat.le_refl _), if_pos rfl]; rfl
include he2 he3 ht hW in
theorem mv7_U {i : Nat} (hi : i < 7) : stU W e 7 i = if i = 4 then mvU t (e 4) (e 7) else 0 := by
  have hy : SB (mvY t (e 4)) := sb_mulV _ _ _
  have hD : 1 ≤ mvD t (e 4) (e 7) ∧ mvD t (e 4) (e 7) ≤ 72057594037927936 := by unfold mvD; exact varV_bd _
  unfold stU dotV
  rw [if_neg (by decide), mv7_dot he2 he3 ht hW (by omega), mv7_D he2 he3 ht hW, if_neg (by omega), show (30 : Int).toNat = 30 from rfl]
  by_cases e4 : i = 4
  · rw [if_pos e4, if_pos e4, rsh_mul, satV_sb hy]; rfl
  · rw [if_neg e4, if_neg e4, rsh_0, satV_0]
    exact divV_z (by rw [satV_id (by omega) (by omega)]; omega) _
include he2 he3 ht hW in
theorem mv7_W (x : Nat) (hx : x < 1152) : elW W e 7 7 0 x = mvV t (e 4) (e 7) x := by
  have hu : SB (mvU t (e 4) (e 7)) := sb_divV _ _ _
  have hxx : x = x / 48 * 48 + x % 48 := by omega
  have hk : x % 48 < 48 := by omega
  have hsb := mvW_sb ht x
  unfold elW mvV
  by_cases h4 : x / 48 = 4
  · rw [if_pos (by omega), if_pos h4]
    unfold elV
    rw [mv7_U he2 he3 ht hW (by omega), if_pos h4, hW _ (by omega), hW _ (by omega), mvWo (by omega) hk, mvW7 hk]
    rw [h4]
    by_cases k4 : x % 48 = 4
    · rw [if_pos (.inl k4), if_pos k4, if_pos k4]; rfl
    · rw [if_neg k4, if_neg k4]
      by_cases k7 : x % 48 = 7 ∨ x % 48 = 31
      · rw [if_pos k7, if_pos k7, if_neg (show ¬ (x % 48 = 4 ∨ x % 48 = 24 + 4) by omega), mulV_oner hu]; exact (subV_0l hu).1
      · rw [if_neg k7, if_neg k7, mulV_comm, mulV_0]
        by_cases k28 : x % 48 = 28
        · rw [if_pos k28, if_pos (show x % 48 = 4 ∨ x % 48 = 24 + 4 by omega)]; exact subV_0 (by decide) (by decide)
        · rw [if_neg k28, if_neg (show ¬ (x % 48 = 4 ∨ x % 48 = 24 + 4) by omega)]; decide
  · rw [if_neg h4]
    split
    · unfold elV
      rw [mv7_U he2 he3 ht hW (by omega), if_neg h4, mulV_0, ← hxx, hW x hx, subV_0 hsb.1 hsb.2]
    · exact hW x hx
/-- The stage's flag. -/
def mvH7 (t A B : Int) : Bool := mulH t A 30 || (satH (rsh (t * mvY t A + 1073741824 * B) 30) || varH (satV (rsh (t * mvY t A + 1073741824 * B) 30))) || (divH (mvY t A) (mvD t A B) 30 || (mulH (mvU t A B) t 30 || subH 1073741824 (mulV (mvU t A B) t 30)))
theorem orB_one {p : Nat → Bool} {n a : Nat} (ha : a < n) (h : ∀ i, i < n → i ≠ a → p i = false) : orB p n = p a := by
  induction n with
  | zero => omega
  | succ n ih =>
    simp only [orB]
    by_cases e1 : a = n
    · subst e1; rw [orB_no fun i hi => h i (by omega) (by omega)]; rfl
    · rw [ih (by omega) fun i hi => h i (by omega), h n (by omega) (by omega)]; simp
include he2 he3 ht hW in
theorem mv7_H : stageH W e 7 = mvH7 t (e 4) (e 7) := by
  have hy : SB (mvY t (e 4)) := sb_mulV _ _ _
  have hu : SB (mvU t (e 4) (e 7)) := sb_divV _ _ _
  have hD : 1 ≤ mvD t (e 4) (e 7) ∧ mvD t (e 4) (e 7) ≤ 72057594037927936 := by unfold mvD; exact varV_bd _
  have hWs : ∀ x, x < 1152 → SB (W x) := fun x hx => by rw [hW x hx]; exact mvW_sb ht x
  unfold stageH mvH7
  rw [orB_one (p := yB W e 7) (a := 4) (by decide) (fun k hk hne => by rw [(mv7_Y he2 he3 hW hk).2, if_neg hne]), (mv7_Y he2 he3 hW (by decide)).2, if_pos rfl]
  have hd : dB W e 7 = (satH (rsh (t * mvY t (e 4) + 1073741824 * e 7) 30) || varH (satV (rsh (t * mvY t (e 4) + 1073741824 * e 7) 30))) := by
    unfold dB dotH dotV
    rw [if_neg (by decide), if_neg (by decide), mv7_dot he2 he3 ht hW (Nat.le_refl _), if_pos rfl, mv7_dotB he2 he3 ht hW (Nat.le_refl _)]; rfl
  rw [hd]
  have hub : ∀ i, i < 7 → uB W e 7 i = if i = 4 then divH (mvY t (e 4)) (mvD t (e 4) (e 7)) 30 else false := by
    intro i hi
    unfold uB dotH dotV
    rw [if_neg (by decide), if_neg (by decide), mv7_dot he2 he3 ht hW (by omega), mv7_D he2 he3 ht hW, if_neg (by omega), mv7_dotB he2 he3 ht hW (by omega), show (30 : Int).toNat = 30 from rfl]
    by_cases e4 : i = 4
    · rw [if_pos e4, if_pos e4, rsh_mul, satV_sb hy, satH_sb hy]; rfl
    · rw [if_neg e4, if_neg e4, rsh_0, satV_0, satH_0, divH_z hD.1 (by omega) (by decide) (by decide)]; rfl
  rw [orB_one (p := rowB W e 7) (a := 4) (by decide)]
  · congr 1
    unfold rowB
    rw [hub 4 (by decide), if_pos rfl, mv7_U he2 he3 ht hW (by decide), if_pos rfl]
    congr 1
    rw [orB_one (a := 4) (by decide)]
    · unfold elB
      rw [hW _ (by decide), hW _ (by decide), mvW7 (by decide), mvWo (by decide) (by decide), if_pos rfl, if_pos (.inl rfl)]
    · intro k hk hne
      unfold elB
      rw [hW _ (by omega), hW _ (by omega), mvW7 hk, mvWo (by decide) hk, if_neg hne]
      by_cases k7 : k = 7 ∨ k = 31
      · rw [if_pos k7, if_neg (show ¬ (k = 4 ∨ k = 24 + 4) by omega), mulH_oner hu, mulV_oner hu, (subV_0l hu).2]; rfl
      · rw [if_neg k7, mulH_comm, mulH_0 hu.1 hu.2, mulV_comm, mulV_0]
        split
        · decide
        · decide
  · intro i hi hne
    unfold rowB
    rw [hub i hi, if_neg hne, orB_no]; rfl
    intro k hk
    have h1 := hWs (7 * 48 + k) (by omega)
    have h2 := hWs (i * 48 + k) (by omega)
    unfold elB
    rw [mv7_U he2 he3 ht hW hi, if_neg hne, mulH_0 h1.1 h1.2, mulV_0, subH_0 h2.1 h2.2]; rfl
end
end Go.Proofs.Ytomcniampdpnhaa
