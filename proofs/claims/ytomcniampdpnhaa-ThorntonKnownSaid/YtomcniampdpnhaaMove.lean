/- thornton.Step of variances alone: place by velocity (plain law, 2): the numbers that come out. No program. -/
import Derived.Test.YtomcniampdpnhaaMoveP
namespace Go.Proofs.Ytomcniampdpnhaa
/-- One, and t at row a and column b. -/
def mvF (a b : Nat) (t : Int) : Nat → Int := fun x => if x = a * 24 + b then t else oneF x
def mvW (a b : Nat) (t : Int) : Nat → Int := fun x => if x = a * 48 + b then t else idW x
theorem mvW_at {a b : Nat} {t : Int} (hb : b < 48) {i k : Nat} (hk : k < 48) : mvW a b t (i * 48 + k) = if i = a ∧ k = b then t else if k = i ∨ k = 24 + i then 1073741824 else 0 := by
  unfold mvW
  rw [idW_at hk]
  split
  · rw [if_pos (by omega)]
  · rw [if_neg (show ¬ (i = a ∧ k = b) by omega)]
section
variable {f : Nat → Int} (hf : DiagF f) {a b : Nat} (ha : a < 24) (hb : b < 24) (hab : a ≠ b) {t : Int} (ht : SB t)
theorem mvF_sb (ht : SB t) (x : Nat) : SB (mvF a b t x) := by
  unfold mvF; split
  · exact ht
  · unfold oneF; split; exact sb_one; exact sb_0
theorem mvF_sat (ht : SB t) (x : Nat) : fS (mvF a b t) 24 0 x = mvF a b t x := by
  unfold fS; split
  · exact satV_sb (mvF_sb ht x)
  · rfl
theorem mvF_at {i m : Nat} (hm : m < 24) (hb : b < 24) : mvF a b t (i * 24 + m) = if i = a ∧ m = b then t else if i = m then 1073741824 else 0 := by
  unfold mvF
  rw [oneF_at hm]
  split
  · rw [if_pos (by omega)]
  · rw [if_neg (show ¬ (i = a ∧ m = b) by omega)]
theorem rsh_one (t : Int) : rsh (t * 1073741824) 30 = t := by rw [Int.mul_comm]; exact rsh_mul t
include hf ht in
theorem mv_rw {i k : Nat} (_hi : i < 24) (hk : k < 24) : rwV f (fS (mvF a b t) 24 0) i k = mvF a b t (i * 24 + k) ∧ rwB f (fS (mvF a b t) 24 0) i k = false := by
  have hd : dotS (rowF 24 (fS (mvF a b t) 24 0) i) (colF f k) 24 = mvF a b t (i * 24 + k) * 1073741824 := by
    rw [dotS_1 (a := k) hk]
    · rw [colF_diag hf.1 hk, if_pos rfl, satV_one]
      simp only [rowF]
      rw [mvF_sat ht, satV_sb (mvF_sb ht _)]
    · intro m hm hne
      right; rw [colF_diag hf.1 hk, if_neg hne]
  have hbb : dotB (rowF 24 (fS (mvF a b t) 24 0) i) (colF f k) 24 = false := by
    refine dotB_no fun m hm => ⟨?_, ?_⟩
    · simp only [rowF]; rw [mvF_sat ht]; exact satH_sb (mvF_sb ht _)
    · rw [colF_diag hf.1 hk]; split; exact satH_one; exact satH_0
  have h1 := mvF_sb (a := a) (b := b) ht (i * 24 + k)
  unfold rwV rwB dotV dotH
  rw [if_neg (by decide : ¬ ((30 : Int) < 0 ∨ (120 : Int) < 30)), if_neg (by decide : ¬ ((30 : Int) < 0 ∨ (120 : Int) < 30)), hbb, hd, show (30 : Int).toNat = 30 from rfl, rsh_one, satV_sb h1, satH_sb h1]
  exact ⟨rfl, rfl⟩
include hf ht hb in
theorem mv_W (x : Nat) (hx : x < 1152) : stepW f (mvF a b t) x = mvW a b t x := by
  have hc := cond_diag hf
  have hf' : DiagF (condF f) := ⟨fun x hx => by rw [hc.1 x (by omega)]; exact hf.1 x hx, fun i hi => by rw [hc.1 _ (by omega)]; exact hf.2 i hi⟩
  have hxx : x = x / 48 * 48 + x % 48 := by omega
  unfold stepW rowsW
  rw [hxx, mvW_at (by omega) (by omega), ← hxx]
  split
  · rw [(mv_rw hf' ht (by omega) (by omega)).1, mvF_at (by omega) hb]
    split
    · rfl
    · split <;> split <;> first | rfl | omega
  · rw [if_neg (show ¬ (x / 48 = a ∧ x % 48 = b) by omega)]
    split <;> split <;> first | rfl | omega
/-- The weights of a step without noise. -/
theorem mv_E {f : Nat → Int} (hf : DiagF f) {k : Nat} (hk : k < 48) : stepE f (fun _ => 0) k = if k < 24 then f (276 + k) else 0 := by
  have hc := cond_diag hf
  unfold stepE eS
  split
  · rw [hc.1 _ (by omega)]
  · rw [if_pos (by omega)]; exact (qV_id (a := 0) (by omega) (by omega)).1
include hf ht in
theorem mv_H0 : condH f = false ∧ loop1H (fun _ => 0) (mvF a b t) 24 = false ∧ rowsH (condF f) (fS (mvF a b t) 24 0) = false := by
  have hc := cond_diag hf
  have hf' : DiagF (condF f) := ⟨fun x hx => by rw [hc.1 x (by omega)]; exact hf.1 x hx, fun i hi => by rw [hc.1 _ (by omega)]; exact hf.2 i hi⟩
  refine ⟨hc.2, ?_, ?_⟩
  · unfold loop1H
    refine orB_no fun i hi => ?_
    rw [show qH 0 = false by decide]
    unfold row1H
    rw [orB_no]; rfl
    intro k hk; exact satH_sb (mvF_sb ht _)
  · unfold rowsH rwH
    exact orB_no fun k hk => orB_no fun i hi => (mv_rw hf' ht hi hk).2
end
theorem tri_sep {j k : Nat} (hj : j < 24) (hk : k < j) : k * (k - 1) / 2 + k ≤ j * (j - 1) / 2 := by
  have : ∀ j : Fin 24, ∀ k : Fin 24, k.val < j.val → k.val * (k.val - 1) / 2 + k.val ≤ j.val * (j.val - 1) / 2 := by decide
  exact this ⟨j, hj⟩ ⟨k, by omega⟩ hk
/-- Plain stages from n on: as long as each row is One alone and no row ahead has a number in its column. W and the out stay but for the D's. -/
theorem run_plain {W e : Nat → Int} (he : ∀ k, k < 48 → SB (e k)) (he2 : ∀ j, j < 24 → 1 ≤ e j ∧ e j ≤ 72057594037927936) (he3 : ∀ j, j < 24 → e (24 + j) = 0) {V O : Nat → Int} (hV : ∀ x, x < 1152 → SB (V x)) {n : Nat} (hn : n ≤ 24)
    (h0 : (∀ x, x < 1152 → WN W e n x = V x) ∧ HN W e n = false ∧ (∀ x, x < 300 → ON W e n x = O x) ∧ ∀ x, x < (24 - n) * (24 - n - 1) / 2 → O x = 0) : ∀ m, n + m ≤ 24 →
    (∀ j, 24 - (n + m) ≤ j → j < 24 - n → (∀ k, k < 48 → V (j * 48 + k) = if k = j ∨ k = 24 + j then 1073741824 else 0) ∧ ∀ i, i < j → V (i * 48 + j) = 0) →
    (∀ x, x < 1152 → WN W e (n + m) x = V x) ∧ HN W e (n + m) = false ∧ (∀ x, x < 300 → ON W e (n + m) x = if 276 ≤ x ∧ 24 - (n + m) ≤ x - 276 ∧ x - 276 < 24 - n then e (x - 276) else O x)
  | 0, _, _ => ⟨h0.1, h0.2.1, fun x hx => by rw [if_neg (by omega)]; exact h0.2.2.1 x hx⟩
  | m + 1, hm, hj => by
    obtain ⟨h1, h2, h3⟩ := run_plain he he2 he3 hV hn h0 m (by omega) (fun j a b => hj j (by omega) b)
    have hjm := hj (23 - (n + m)) (by omega) (by omega)
    have hs := stage_plain (W := WN W e (n + m)) (e := e) (j := 23 - (n + m)) (by omega) (fun x hx => by rw [h1 x hx]; exact hV x hx) (fun k hk => by rw [h1 _ (by omega)]; exact hjm.1 k hk) he (he3 _ (by omega)) (he2 _ (by omega)) (fun i hi => by rw [h1 _ (by omega)]; exact hjm.2 i hi)
    have ht := tri_le (j := 23 - (n + m)) (by omega)
    have hz : ∀ x, (23 - (n + m)) * (23 - (n + m) - 1) / 2 ≤ x → x < (23 - (n + m)) * (23 - (n + m) - 1) / 2 + (23 - (n + m)) → ON W e (n + m) x = 0 := by
      intro x h4 h5
      rw [h3 x (by omega), if_neg (by omega)]
      refine h0.2.2.2 x ?_
      by_cases hn0 : n = 0
      · subst hn0; simp only [Nat.sub_zero]; omega
      · have := tri_sep (j := 24 - n) (k := 23 - (n + m)) (by omega) (by omega)
        omega
    refine ⟨fun x hx => by show elW (WN W e (n + m)) e (23 - (n + m)) (23 - (n + m)) 0 x = V x; rw [hs.1 x hx]; exact h1 x hx, by show (HN W e (n + m) || stageH (WN W e (n + m)) e (23 - (n + m))) = false; rw [h2, hs.2.2.1]; rfl, fun x hx => ?_⟩
    show outI (ON W e (n + m)) (WN W e (n + m)) e (23 - (n + m)) (23 - (n + m)) x = _
    rw [outI_plain (by omega) hs.2.1 hz _ (Nat.le_refl _), hs.2.2.2]
    by_cases e1 : x = 276 + (23 - (n + m))
    · rw [if_pos e1, if_pos (by omega), e1, show 276 + (23 - (n + m)) - 276 = 23 - (n + m) by omega]
    · rw [if_neg e1, h3 x hx]
      split <;> split <;> first | rfl | omega
end Go.Proofs.Ytomcniampdpnhaa
