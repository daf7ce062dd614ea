/- thornton.Step of variances alone, One and one number more: what comes out (plain law, 1). No program. -/
import Derived.Test.YtglpbcionohipaaStepG
namespace Go.Proofs.Ytglpbcionohipaa
def atU (f : Nat → Int) (i m : Nat) : Nat → Int := fun q => uV f i (m + q)
def atX (f : Nat → Int) (j m : Nat) : Nat → Int := fun q => mulV (uV f j (m + q)) (f (276 + (m + q))) 30
def atV (f : Nat → Int) (i j : Nat) : Int := dotV 30 (atU f i (max i j)) (atX f j (max i j)) (24 - max i j)
def atB (f : Nat → Int) (j m : Nat) : Nat → Bool := fun q => mulH (uV f j (m + q)) (f (276 + (m + q))) 30
def atH (f : Nat → Int) (i j : Nat) : Bool := orB (atB f j (max i j)) (24 - max i j) || dotH 30 (atU f i (max i j)) (atX f j (max i j)) (24 - max i j)
def SB (x : Int) : Prop := -1152921504606846976 ≤ x ∧ x ≤ 1152921504606846976
theorem satV_sb {x : Int} (h : SB x) : satV x = x := satV_id h.1 h.2
theorem satH_sb {x : Int} (h : SB x) : satH x = false := satH_no h.1 h.2
theorem sb_0 : SB 0 := by unfold SB; omega
theorem sb_one : SB 1073741824 := by unfold SB; omega
/-- A stage that leaves the rows: those ahead have nothing in common with row j. -/
theorem stage_q {W e : Nat → Int} {j : Nat} (hj : j < 24) (hW : ∀ x, x < 1152 → SB (W x)) (_he : ∀ k, k < 48 → SB (e k))
    (hY : ∀ i, i < j → ∀ k, k < 48 → W (i * 48 + k) = 0 ∨ stY W e j k = 0) (hY2 : ∀ k, k < 48 → SB (stY W e j k)) (hy : ∀ k, k < 48 → yB W e j k = false) (hd : dB W e j = false) :
    (∀ x, x < 1152 → elW W e j j 0 x = W x) ∧ (∀ i, i < j → stU W e j i = 0) ∧ stageH W e j = false := by
  have hD : 1 ≤ stD W e j ∧ stD W e j ≤ 72057594037927936 := by unfold stD; exact varV_bd _
  have hz : ∀ i, i < j → dotS (rowF 48 W i) (stY W e j) 48 = 0 := fun i hi => dotS_no fun k hk => hY i hi k hk
  have hu : ∀ i, i < j → stU W e j i = 0 := by
    intro i hi
    unfold stU dotV
    rw [if_neg (by decide), hz i hi, show (30 : Int).toNat = 30 from rfl, rsh_0, satV_0]
    exact divV_z (by rw [satV_id (by omega) (by omega)]; omega) _
  have huB : ∀ i, i < j → uB W e j i = false := by
    intro i hi
    unfold uB dotV dotH
    rw [if_neg (by decide), if_neg (by decide), hz i hi, show (30 : Int).toNat = 30 from rfl, rsh_0, satV_0, satH_0, divH_z hD.1 (by omega) (by decide) (by decide)]
    rw [dotB_no (A := rowF 48 W i) fun k hk => ⟨satH_sb (hW (i * 48 + k) (by omega)), satH_sb (hY2 k hk)⟩]; rfl
  refine ⟨fun x hx => ?_, hu, ?_⟩
  · unfold elW
    split
    · unfold elV
      rw [hu _ (by omega), mulV_0, show x / 48 * 48 + x % 48 = x by omega]
      exact subV_0 (hW x hx).1 (hW x hx).2
    · rfl
  · unfold stageH
    rw [hd, orB_no hy, orB_no]; rfl
    intro i hi
    unfold rowB
    rw [huB i hi, orB_no]; rfl
    intro k hk
    have h1 := hW (j * 48 + k) (by omega)
    have h2 := hW (i * 48 + k) (by omega)
    unfold elB
    rw [hu i hi, mulV_0, mulH_0 h1.1 h1.2, subH_0 h2.1 h2.2]; rfl
/-- Row j is One at j and at 24 + j alone. -/
theorem plain_row {W e : Nat → Int} {j : Nat} (hj : j < 24) (hr : ∀ k, k < 48 → W (j * 48 + k) = if k = j ∨ k = 24 + j then 1073741824 else 0) (he : ∀ k, k < 48 → SB (e k)) (h24 : e (24 + j) = 0) (h1 : 1 ≤ e j ∧ e j ≤ 72057594037927936) :
    (∀ k, k < 48 → stY W e j k = if k = j then e j else 0) ∧ (∀ k, k < 48 → yB W e j k = false) ∧ dotS (rowF 48 W j) (stY W e j) 48 = 1073741824 * e j := by
  have hY : ∀ k, k < 48 → stY W e j k = if k = j then e j else 0 := by
    intro k hk
    unfold stY
    rw [hr k hk]
    have := he k hk
    by_cases e1 : k = j
    · rw [if_pos (.inl e1), if_pos e1, e1]; exact mulV_one (by omega) (by omega)
    · rw [if_neg e1]
      by_cases e2 : k = 24 + j
      · rw [if_pos (.inr e2), e2, h24]; decide
      · rw [if_neg (by omega)]; exact mulV_0 _
  refine ⟨hY, fun k hk => ?_, ?_⟩
  · unfold yB
    rw [hr k hk]
    have := he k hk
    split
    · exact mulH_one this.1 this.2
    · exact mulH_0 this.1 this.2
  · rw [dotS_1 (a := j) (by omega)]
    · rw [hY j (by omega), if_pos rfl]
      simp only [rowF]
      rw [hr j (by omega), if_pos (.inl rfl), satV_one, satV_id (by omega) (by omega)]
    · intro k hk hne
      right; rw [hY k hk, if_neg hne]
theorem plain_D {W e : Nat → Int} {j : Nat} (hj : j < 24) (hW : ∀ x, x < 1152 → SB (W x)) (hr : ∀ k, k < 48 → W (j * 48 + k) = if k = j ∨ k = 24 + j then 1073741824 else 0) (he : ∀ k, k < 48 → SB (e k)) (h24 : e (24 + j) = 0) (h1 : 1 ≤ e j ∧ e j ≤ 72057594037927936) :
    stD W e j = e j ∧ dB W e j = false := by
  obtain ⟨hY, _, hS⟩ := plain_row hj hr he h24 h1
  have hb : dotB (rowF 48 W j) (stY W e j) 48 = false := dotB_no fun k hk => ⟨satH_sb (hW _ (by omega)), by rw [hY k hk]; split; exact satH_no (by omega) (by omega); exact satH_0⟩
  unfold stD dB dotV dotH
  rw [if_neg (by decide), if_neg (by decide), hS, hb, show (30 : Int).toNat = 30 from rfl, rsh_mul, satV_id (by omega) (by omega), satH_no (by omega) (by omega), (varV_id h1.1 h1.2).1, (varV_id h1.1 h1.2).2]
  exact ⟨rfl, rfl⟩
/-- A plain stage: row j is One alone, and no row ahead has a number at j. -/
theorem stage_plain {W e : Nat → Int} {j : Nat} (hj : j < 24) (hW : ∀ x, x < 1152 → SB (W x)) (hr : ∀ k, k < 48 → W (j * 48 + k) = if k = j ∨ k = 24 + j then 1073741824 else 0) (he : ∀ k, k < 48 → SB (e k)) (h24 : e (24 + j) = 0)
    (h1 : 1 ≤ e j ∧ e j ≤ 72057594037927936) (hc : ∀ i, i < j → W (i * 48 + j) = 0) :
    (∀ x, x < 1152 → elW W e j j 0 x = W x) ∧ (∀ i, i < j → stU W e j i = 0) ∧ stageH W e j = false ∧ stD W e j = e j := by
  obtain ⟨hY, hy, _⟩ := plain_row hj hr he h24 h1
  obtain ⟨hD, hd⟩ := plain_D hj hW hr he h24 h1
  obtain ⟨a, b, c⟩ := stage_q hj hW he (fun i hi k hk => by
    by_cases e1 : k = j
    · left; rw [e1]; exact hc i hi
    · right; rw [hY k hk, if_neg e1]) (fun k hk => by rw [hY k hk]; split; exact he _ (by omega); exact sb_0) hy hd
  exact ⟨a, b, c, hD⟩
/-- The out so far, at a plain stage: D of row j, and noughts above it. -/
theorem outI_plain {O W e : Nat → Int} {j : Nat} (hj : j < 24) (hu : ∀ i, i < j → stU W e j i = 0) (hO : ∀ x, j * (j - 1) / 2 ≤ x → x < j * (j - 1) / 2 + j → O x = 0) : ∀ m, m ≤ j → ∀ x, outI O W e j m x = if x = 276 + j then stD W e j else O x
  | 0, _, x => by simp only [outI, upd]
  | m + 1, hm, x => by
    have ht := tri_le hj
    simp only [outI, upd]
    rw [outI_plain hj hu hO m (by omega) x, hu m (by omega)]
    split
    · rename_i h1
      unfold pl at h1
      rw [if_neg (by omega), hO x (by omega) (by omega)]
    · rfl
end Go.Proofs.Ytglpbcionohipaa
