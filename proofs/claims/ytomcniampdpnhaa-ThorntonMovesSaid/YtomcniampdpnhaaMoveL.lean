/- Place by velocity: the law's numbers (plain law, 6). No program. -/
import Derived.Test.YtomcniampdpnhaaMoveE
namespace Go.Proofs.Ytomcniampdpnhaa
section
variable {f : Nat → Int} (hf : DiagF f) {t : Int} (ht : 0 ≤ t ∧ t ≤ 1073741824) (ha : 1073741824 ≤ f 280 ∧ f 280 ≤ 281474976710656) (hb : 1073741824 ≤ f 283 ∧ f 283 ≤ 281474976710656)
/-- The factors behind the step. -/
def mvO (f : Nat → Int) (t : Int) : Nat → Int := stepF f (mvF 7 4 t) (fun _ => 0)
include hf ht in
theorem mvO_at {x : Nat} (hx : x < 300) : mvO f t x = if x = 25 then mvU t (f 280) (f 283) else if x = 283 then mvD t (f 280) (f 283) else if x = 280 then mvG t (f 280) (f 283) else f x :=
  (move_step hf (show SB t by unfold SB; omega)).1 x hx
include hf ht ha hb in
theorem mvO_H : stepH f (mvF 7 4 t) (fun _ => 0) = false := by
  have h := mv_nums ht ha hb
  exact (move_step hf (show SB t by unfold SB; omega)).2 h.1 h.2.1
theorem pl_inj {i j i' j' : Nat} (h : i < j) (h' : i' < j') (hj : j < 24) (hj' : j' < 24) (e : pl i j = pl i' j') : i = i' ∧ j = j' := by
  unfold pl at e
  rcases Nat.lt_trichotomy j j' with h1 | h1 | h1
  · have := tri_sep hj' h1; omega
  · subst h1; exact ⟨by omega, rfl⟩
  · have := tri_sep hj h1; omega
include hf ht in
theorem mvO_U {i k : Nat} (hk : k < 24) : uV (mvO f t) i k = if i = k then 1073741824 else if i = 4 ∧ k = 7 then mvU t (f 280) (f 283) else 0 := by
  unfold uV
  by_cases h0 : i = k
  · rw [if_pos h0, if_pos h0]
  · rw [if_neg h0, if_neg h0]
    by_cases h1 : i < k
    · have hp := pl_lt h1 hk
      rw [if_pos h1, mvO_at hf ht (by omega)]
      by_cases h2 : i = 4 ∧ k = 7
      · rw [if_pos h2, h2.1, h2.2, if_pos (show pl 4 7 = 25 from rfl)]
      · rw [if_neg h2]
        have hne : pl i k ≠ 25 := fun e => h2 (pl_inj h1 (by decide) hk (by decide) (e.trans (show 25 = pl 4 7 from rfl)))
        rw [if_neg hne, if_neg (by omega), if_neg (by omega)]
        exact hf.1 _ hp
    · rw [if_neg h1, if_neg (by omega)]
include hf ht ha hb in
theorem mvO_D {k : Nat} (hk : k < 24) : 1 ≤ mvO f t (276 + k) ∧ mvO f t (276 + k) ≤ 72057594037927936 := by
  obtain ⟨_, _, hD, _, hG, _⟩ := mv_nums ht ha hb
  rw [mvO_at hf ht (by omega), if_neg (by omega)]
  split
  · omega
  · split
    · omega
    · exact hf.2 k hk
include hf ht ha hb in
theorem mvO_X {j m q : Nat} (hq : m + q < 24) : atX (mvO f t) j m q = (if j = m + q then mvO f t (276 + j) else if j = 4 ∧ m + q = 7 then rsh (mvU t (f 280) (f 283) * mvD t (f 280) (f 283)) 30 else 0) ∧ atB (mvO f t) j m q = false := by
  obtain ⟨_, _, hD, hU, hG, hY, _, _, _, sbp, _⟩ := mv_nums ht ha hb
  have hDk := mvO_D hf ht ha hb hq
  unfold atX atB
  rw [mvO_U hf ht hq]
  by_cases h0 : j = m + q
  · rw [if_pos h0, if_pos h0, h0]
    exact ⟨mulV_one (by omega) (by omega), mulH_one (by omega) (by omega)⟩
  · rw [if_neg h0, if_neg h0]
    by_cases h1 : j = 4 ∧ m + q = 7
    · have hD7 : mvO f t (276 + (m + q)) = mvD t (f 280) (f 283) := by rw [h1.2, mvO_at hf ht (by decide), if_neg (by decide), if_pos (by decide)]
      rw [if_pos h1, if_pos h1, hD7]
      exact mulV_of (by unfold SB; omega) (by unfold SB; omega) sbp
    · rw [if_neg h1, if_neg h1]
      exact ⟨mulV_0 _, mulH_0 (by omega) (by omega)⟩
theorem sb_uV {i k : Nat} (hU : 0 ≤ mvU t (f 280) (f 283) ∧ mvU t (f 280) (f 283) ≤ 281474976710656) : SB (if i = k then 1073741824 else if i = 4 ∧ k = 7 then mvU t (f 280) (f 283) else 0) := by
  unfold SB; split
  · omega
  · split <;> omega
theorem atH_of {f : Nat → Int} {i j : Nat} {Z : Int} (hB : ∀ q, q < 24 - max i j → atB f j (max i j) q = false) (hA : ∀ q, q < 24 - max i j → SB (atU f i (max i j) q) ∧ SB (atX f j (max i j) q)) (hS : dotS (atU f i (max i j)) (atX f j (max i j)) (24 - max i j) = Z) (hZ : SB (rsh Z 30)) :
    atV f i j = rsh Z 30 ∧ atH f i j = false := by
  unfold atV atH dotV dotH
  rw [if_neg (by decide), if_neg (by decide), hS, show (30 : Int).toNat = 30 from rfl, satV_sb hZ, satH_sb hZ, orB_no hB, dotB_no fun q hq => ⟨satH_sb (hA q hq).1, satH_sb (hA q hq).2⟩]
  exact ⟨rfl, rfl⟩
include hf ht ha hb in
theorem mvO_A {i j : Nat} : (∀ q, q < 24 - max i j → atB (mvO f t) j (max i j) q = false) ∧ (∀ q, q < 24 - max i j → SB (atU (mvO f t) i (max i j) q) ∧ SB (atX (mvO f t) j (max i j) q)) := by
  obtain ⟨_, _, hD, hU, hG, hY, _, _, _, sbp, _⟩ := mv_nums ht ha hb
  refine ⟨fun q hq => (mvO_X hf ht ha hb (by omega)).2, fun q hq => ⟨?_, ?_⟩⟩
  · unfold atU; rw [mvO_U hf ht (by omega)]; exact sb_uV hU
  · rw [(mvO_X hf ht ha hb (by omega)).1]
    split
    · have := mvO_D hf ht ha hb (k := j) (by omega); unfold SB; omega
    · split
      · exact sbp
      · exact sb_0
include hf ht ha hb in
theorem move_law :
    (atV (mvO f t) 7 7 = mvD t (f 280) (f 283) ∧ atH (mvO f t) 7 7 = false) ∧
    (-4194304 ≤ mvD t (f 280) (f 283) - f 283 - mulV (mulV (f 280) t 30) t 30 ∧ mvD t (f 280) (f 283) - f 283 - mulV (mulV (f 280) t 30) t 30 ≤ 4194304) ∧
    (mulH (f 280) t 30 = false ∧ mulH (mulV (f 280) t 30) t 30 = false) ∧
    (-4194304 ≤ atV (mvO f t) 4 7 - mulV (f 280) t 30 ∧ atV (mvO f t) 4 7 - mulV (f 280) t 30 ≤ 4194304 ∧ atH (mvO f t) 4 7 = false) ∧
    (-4194304 ≤ atV (mvO f t) 4 4 - f 280 ∧ atV (mvO f t) 4 4 - f 280 ≤ 4194304 ∧ atH (mvO f t) 4 4 = false) ∧
    (0 ≤ mulV (f 280) t 30 ∧ mulV (f 280) t 30 ≤ 281474976710656) ∧ (0 ≤ mulV (mulV (f 280) t 30) t 30 ∧ mulV (mulV (f 280) t 30) t 30 ≤ 281474976710656) ∧ (1 ≤ mvD t (f 280) (f 283) ∧ mvD t (f 280) (f 283) ≤ 562949953421312) := by
  obtain ⟨_, _, hD, hU, hG, hY, eY, eD, eU, sbp, sbZ, hZ⟩ := mv_nums ht ha hb
  have A77 := mvO_A hf ht ha hb (i := 7) (j := 7)
  have A47 := mvO_A hf ht ha hb (i := 4) (j := 7)
  have A44 := mvO_A hf ht ha hb (i := 4) (j := 4)
  have oD : mvO f t 283 = mvD t (f 280) (f 283) := by rw [mvO_at hf ht (by decide), if_neg (by decide), if_pos rfl]
  have oG : mvO f t 280 = mvG t (f 280) (f 283) := by rw [mvO_at hf ht (by decide), if_neg (by decide), if_neg (by decide), if_pos rfl]
  have hYY : mvY t (f 280) = mulV (f 280) t 30 := by unfold mvY; exact mulV_comm _ _ _
  have ty0 : 0 ≤ t * mvY t (f 280) := Int.mul_nonneg ht.1 hY.1
  have ty1 : t * mvY t (f 280) ≤ mvY t (f 280) * 1073741824 := by rw [Int.mul_comm]; exact Int.mul_le_mul_of_nonneg_left ht.2 hY.1
  have E0 := rsh_err (t * mvY t (f 280))
  have n0 := rsh_nonneg ty0
  have m0 := mulV_of (a := t) (b := f 280) (by unfold SB; omega) (by unfold SB; omega) (by rw [← eY]; unfold SB; omega)
  have m1 := mulV_of (a := t) (b := mvY t (f 280)) (by unfold SB; omega) (by unfold SB; omega) (by unfold SB; omega)
  have e2 : mulV (mulV (f 280) t 30) t 30 = rsh (t * mvY t (f 280)) 30 := by rw [← hYY, mulV_comm]; exact m1.1
  have E2 := rsh_err (t * mvY t (f 280) + 1073741824 * f 283)
  rw [← eD] at E2
  -- the place's variance
  have S77 : dotS (atU (mvO f t) 7 (max 7 7)) (atX (mvO f t) 7 (max 7 7)) (24 - max 7 7) = 1073741824 * mvD t (f 280) (f 283) := by
    rw [dotS_1 (a := 0) (by decide)]
    · rw [(mvO_X hf ht ha hb (by decide)).1, if_pos (by decide), oD]
      unfold atU
      rw [mvO_U hf ht (by decide), if_pos (by decide), satV_one, satV_id (by omega) (by omega)]
    · intro q hq hne
      left; unfold atU; rw [mvO_U hf ht (by omega), if_neg (by omega), if_neg (by omega)]
  have V77 := atH_of A77.1 A77.2 S77 (by rw [rsh_mul]; unfold SB; omega)
  rw [rsh_mul] at V77
  -- in common
  have S47 : dotS (atU (mvO f t) 4 (max 4 7)) (atX (mvO f t) 7 (max 4 7)) (24 - max 4 7) = mvU t (f 280) (f 283) * mvD t (f 280) (f 283) := by
    rw [dotS_1 (a := 0) (by decide)]
    · rw [(mvO_X hf ht ha hb (by decide)).1, if_pos (by decide), oD]
      unfold atU
      rw [mvO_U hf ht (by decide), if_neg (by decide), if_pos (by decide), satV_id (a := mvU t (f 280) (f 283)) (by omega) (by omega), satV_id (by omega) (by omega)]
    · intro q hq hne
      left; unfold atU; rw [mvO_U hf ht (by omega), if_neg (by omega), if_neg (by omega)]
  have V47 := atH_of A47.1 A47.2 S47 sbp
  have E4 := rsh_err (mvU t (f 280) (f 283) * mvD t (f 280) (f 283))
  rw [Int.mul_comm (mvD t (f 280) (f 283))] at eU
  -- the velocity's variance
  have S44 : dotS (atU (mvO f t) 4 (max 4 4)) (atX (mvO f t) 4 (max 4 4)) (24 - max 4 4) = 1073741824 * mvG t (f 280) (f 283) + mvU t (f 280) (f 283) * rsh (mvU t (f 280) (f 283) * mvD t (f 280) (f 283)) 30 := by
    rw [dotS_2 (a := 0) (b := 3) (by decide) (by decide) (by decide)]
    · rw [(mvO_X hf ht ha hb (by decide)).1, if_pos (by decide), oG, (mvO_X hf ht ha hb (q := 3) (by decide)).1, if_neg (by decide), if_pos (by decide)]
      unfold atU
      rw [mvO_U hf ht (by decide), if_pos (by decide), mvO_U hf ht (by decide), if_neg (by decide), if_pos (by decide), satV_one, satV_id (a := mvG t (f 280) (f 283)) (by omega) (by omega), satV_id (a := mvU t (f 280) (f 283)) (by omega) (by omega), satV_sb sbp]
    · intro q hq hne hne2
      left; unfold atU; rw [mvO_U hf ht (by omega), if_neg (by omega), if_neg (by omega)]
  have V44 := atH_of A44.1 A44.2 S44 sbZ
  refine ⟨V77, ?_, ⟨by rw [mulH_comm]; exact m0.2, by rw [← hYY, mulH_comm]; exact m1.2⟩, ?_, ?_, ?_, ?_, ?_⟩
  · rw [e2]; omega
  · rw [V47.1, ← hYY]
    refine ⟨?_, ?_, V47.2⟩ <;> omega
  · rw [V44.1]; exact ⟨hZ.1, hZ.2, V44.2⟩
  · rw [← hYY]; omega
  · rw [e2]; omega
  · omega
end
end Go.Proofs.Ytomcniampdpnhaa
