/- Contracts of the program's functions and plain laws, part 19: they hold for all arguments. -/
import Derived.Test.YtgpnopiinogkmaaQ14
import Derived.Test.YtgpnopiinogkmaaQ18
import Derived.Test.YtgpnopiinogkmaaQ06
import Derived.Test.YtgpnopiinogkmaaQ05
import Derived.Test.YtgpnopiinogkmaaQ01
import Derived.Test.YtgpnopiinogkmaaQ12
/- What a step reads of its arguments; an upright body's step. No program. -/
namespace Go.Proofs.Ytgpnopiinogkmaa
theorem ur_dotS {A B A' B' : Nat → Int} : ∀ {n : Nat}, (∀ i, i < n → A i = A' i ∧ B i = B' i) → dotS A B n = dotS A' B' n
  | 0, _ => rfl
  | n + 1, h => by simp only [dotS]; rw [ur_dotS fun i hi => h i (by omega), (h n (by omega)).1, (h n (by omega)).2]
theorem ur_dotB {A B A' B' : Nat → Int} : ∀ {n : Nat}, (∀ i, i < n → A i = A' i ∧ B i = B' i) → dotB A B n = dotB A' B' n
  | 0, _ => rfl
  | n + 1, h => by simp only [dotB]; rw [ur_dotB fun i hi => h i (by omega), (h n (by omega)).1, (h n (by omega)).2]
theorem ur_dot {A B A' B' : Nat → Int} {n : Nat} (h : ∀ i, i < n → A i = A' i ∧ B i = B' i) : dotV 30 A B n = dotV 30 A' B' n ∧ dotH 30 A B n = dotH 30 A' B' n := by
  unfold dotV dotH; rw [ur_dotS h, ur_dotB h]; exact ⟨rfl, rfl⟩
theorem ur_orB {p q : Nat → Bool} : ∀ {n : Nat}, (∀ i, i < n → p i = q i) → orB p n = orB q n
  | 0, _ => rfl
  | n + 1, h => by simp only [orB]; rw [ur_orB fun i hi => h i (by omega), h n (by omega)]
theorem ur_hyp {A B : Nat → Int} {n : Nat} (h : ∀ i, i < n → A i = B i) : hypV A n = hypV B n ∧ hypH A n = hypH B n := by
  unfold hypV hypH
  rw [ur_dotS fun i hi => ⟨h i hi, h i hi⟩, ur_orB fun i hi => by rw [h i hi]]; exact ⟨rfl, rfl⟩
section
variable {A B : Nat → Int} (h : ∀ i, i < 4 → A i = B i)
include h
theorem ur_uniT : (∀ i, i < 4 → uniT A i = uniT B i) ∧ uniTH A = uniTH B := by
  refine ⟨fun i hi => by unfold uniT; rw [h i hi, (ur_hyp h).1], ?_⟩
  unfold uniTH; rw [(ur_hyp h).1, (ur_hyp h).2, ur_orB fun i hi => by rw [h i hi]]
theorem ur_satA : ∀ i, i < 4 → satA A i = satA B i := fun i hi => by unfold satA; rw [h i hi]
theorem ur_zer : zer4 A = zer4 B := by unfold zer4; rw [h 0 (by omega), h 1 (by omega), h 2 (by omega), h 3 (by omega)]
theorem ur_uni : (∀ i, i < 4 → uniV A i = uniV B i) ∧ uniH A = uniH B := by
  have s := ur_satA h
  have z := ur_zer s
  have u := ur_uniT s
  have v := ur_uniT u.1
  constructor
  · intro i hi
    unfold uniV
    rw [z]
    by_cases hz : zer4 (satA B) = true
    · rw [if_pos hz, if_pos hz]
    · rw [if_neg hz, if_neg hz]; exact v.1 i hi
  · unfold uniH; rw [z, u.2, v.2, ur_orB fun i hi => by rw [h i hi]]
theorem ur_qmR (r : Nat) : qmR A r = qmR B r := by
  have h0 := h 0 (by decide)
  have h1 := h 1 (by decide)
  have h2 := h 2 (by decide)
  have h3 := h 3 (by decide)
  unfold qmR
  split <;> rw [h0, h1, h2, h3]
end
theorem ur_qm {A A' B B' : Nat → Int} (h : ∀ i, i < 4 → A i = A' i) (k : ∀ i, i < 4 → B i = B' i) : (∀ r, qmV A B r = qmV A' B' r) ∧ qmH A B = qmH A' B' := by
  have hs := ur_satA h
  have ks := ur_satA k
  have d : ∀ r, dotV 30 (satA A) (qmR (satA B) r) 4 = dotV 30 (satA A') (qmR (satA B') r) 4 ∧ dotH 30 (satA A) (qmR (satA B) r) 4 = dotH 30 (satA A') (qmR (satA B') r) 4 := fun r => by
    rw [ur_qmR ks r]; exact ur_dot fun i hi => ⟨hs i hi, rfl⟩
  refine ⟨fun r => (d r).1, ?_⟩
  unfold qmH
  rw [ur_orB fun i hi => by rw [h i hi], ur_orB (n := 4) (p := fun i => satH (B i)) fun i hi => by rw [k i hi], ur_orB (p := fun r => dotH 30 (satA A) (qmR (satA B) r) 4) fun r _ => (d r).2]
end Go.Proofs.Ytgpnopiinogkmaa
/- An upright body's step. No program. -/
namespace Go.Proofs.Ytgpnopiinogkmaa
theorem putF_in {f F : Nat → Int} {o n i : Nat} (h : o ≤ i) (h2 : i < o + n) : putF f o n F i = F (i - o) := by unfold putF; rw [if_pos ⟨h, h2⟩]
theorem putF_out {f F : Nat → Int} {o n i : Nat} (h : i < o ∨ o + n ≤ i) : putF f o n F i = f i := by unfold putF; rw [if_neg (by omega)]
/-- A sample's parts. -/
theorem spF_at (S I : Nat → Int) : spF S I 0 = secV (I 1) ∧ (∀ k, k < 3 → spF S I (4 + k) = spA S I 13 5 (secV (I 1)) k) ∧ (∀ k, k < 4 → spF S I (7 + k) = exV (spA S I 10 2 (secV (I 1))) k) ∧ (∀ k, k < 9 → spF S I (11 + k) = roV S k) := by
  unfold spF
  obtain ⟨t, ht⟩ : ∃ t, secV (I 1) = t := ⟨_, rfl⟩
  rw [ht]
  obtain ⟨X1, h1⟩ : ∃ X, spA S I 10 2 t = X := ⟨_, rfl⟩
  obtain ⟨X2, h2⟩ : ∃ X, spA S I 13 5 t = X := ⟨_, rfl⟩
  obtain ⟨X3, h3⟩ : ∃ X, exV X1 = X := ⟨_, rfl⟩
  obtain ⟨X4, h4⟩ : ∃ X, roV S = X := ⟨_, rfl⟩
  rw [h1, h2, h3, h4]
  clear h1 h2 h3 h4 ht
  refine ⟨?_, fun k hk => ?_, fun k hk => ?_, fun k hk => ?_⟩
  · rw [putF_out (by omega), putF_out (by omega), putF_out (by omega), putF_out (by omega)]; exact if_pos rfl
  · rw [putF_out (by omega), putF_out (by omega), putF_in (by omega) (by omega), show 4 + k - 4 = k by omega]
  · rw [putF_out (by omega), putF_in (by omega) (by omega), show 7 + k - 7 = k by omega]
  · rw [putF_in (by omega) (by omega), show 11 + k - 11 = k by omega]
end Go.Proofs.Ytgpnopiinogkmaa
/- Rest with known biases; a fall: plain laws. No program. -/
namespace Go.Proofs.Ytgpnopiinogkmaa
end Go.Proofs.Ytgpnopiinogkmaa
/- A body that heads somewhere, and is level: its step at rest (plain law, 1). No program. -/
namespace Go.Proofs.Ytgpnopiinogkmaa
theorem rs_div0 (b : Int) : divV 0 b 30 = 0 := by
  unfold divV byV
  rw [if_neg (by decide), show satV 0 = 0 by decide, Int.zero_mul]
  by_cases h : satV b = 0
  · rw [if_pos h, if_pos rfl]
  · rw [if_neg h]
    have e : rdiv 0 (satV b) = 0 := by
      unfold rdiv
      have : (2 * (0 : Int).natAbs + (satV b).natAbs) / (2 * (satV b).natAbs) = 0 := Nat.div_eq_of_lt (by have := Int.natAbs_pos.2 h; simp; omega)
      rw [this]
      split <;> rfl
    rw [e]; decide
/-- A nought stays one. -/
theorem rs_uni0 {A : Nat → Int} {i : Nat} (h : A i = 0) (hi : i ≠ 0) : uniV A i = 0 := by
  unfold uniV
  have s : satA A i = 0 := by unfold satA; rw [h]; decide
  by_cases z : zer4 (satA A) = true
  · rw [if_pos z]; unfold oneQ; rw [if_neg hi]
  · rw [if_neg z]
    have u : uniT (satA A) i = 0 := by unfold uniT; rw [s]; exact rs_div0 _
    show divV (uniT (satA A) i) _ 30 = 0
    rw [u]; exact rs_div0 _
end Go.Proofs.Ytgpnopiinogkmaa
/- A level body's matrix (plain law, 2). No program. -/
namespace Go.Proofs.Ytgpnopiinogkmaa
end Go.Proofs.Ytgpnopiinogkmaa
/- Rest with known biases: the step changes nothing (plain law). No program. -/
namespace Go.Proofs.Ytgpnopiinogkmaa
end Go.Proofs.Ytgpnopiinogkmaa
/- A fall: one step, and so many (plain law). No program. -/
namespace Go.Proofs.Ytgpnopiinogkmaa
end Go.Proofs.Ytgpnopiinogkmaa
/- A level body's step at rest (plain law, 3). No program. -/
namespace Go.Proofs.Ytgpnopiinogkmaa
theorem q4_bd {a b c d B : Int} (ha : -B ≤ a ∧ a ≤ B) (hb : -B ≤ b ∧ b ≤ B) (hc : -B ≤ c ∧ c ≤ B) (hd : -B ≤ d ∧ d ≤ B) : ∀ i, i < 4 → -B ≤ q4 a b c d i ∧ q4 a b c d i ≤ B := fun i _ => by
  unfold q4
  split
  · exact ha
  · split
    · exact hb
    · split
      · exact hc
      · exact hd
end Go.Proofs.Ytgpnopiinogkmaa
/- So many steps at rest (plain law, 4). No program. -/
namespace Go.Proofs.Ytgpnopiinogkmaa
theorem ml_big {a b X Y : Int} (ha : -X ≤ a ∧ a ≤ X) (hb : -Y ≤ b ∧ b ≤ Y) (hX : X ≤ 1073741824000) (hY : Y ≤ 1073741824000) (hXY : X * Y ≤ 1000000000000000000000000000) :
    mulV a b 30 = rsh (a * b) 30 ∧ mulH a b 30 = false ∧ -(X * Y) - 1073741824 ≤ 1073741824 * mulV a b 30 ∧ 1073741824 * mulV a b 30 ≤ X * Y + 1073741824 := by
  have m := mul_bd ha hb
  have r := rsh_err (a * b)
  have q := mulV_of (a := a) (b := b) (by unfold SB; omega) (by unfold SB; omega) (by unfold SB; omega)
  refine ⟨q.1, q.2, ?_⟩
  rw [q.1]
  omega
/-- Behind k steps. -/
structure RsI (hf : Int) (v : Nat → Int) (k : Nat) (S : Nat → Int) : Prop where
  z1 : S 1 = 0
  z2 : S 2 = 0
  g : goodB S = true
  hi : ∀ i, 10 ≤ i → S i = 0
  v0 : S 4 = v 0
  v1 : S 5 = v 1
  v2 : -(8 * (k : Int)) ≤ S 6 - v 2 ∧ S 6 - v 2 ≤ 8 * (k : Int)
  x : ∀ j, j < 3 → -((k : Int) * 50000000000) ≤ 1073741824 * S (7 + j) - (k : Int) * (2 * v j * hf) ∧ 1073741824 * S (7 + j) - (k : Int) * (2 * v j * hf) ≤ (k : Int) * 50000000000
end Go.Proofs.Ytgpnopiinogkmaa
/- The program's sines and cosines lie near the polynomials. No program. -/
namespace Go.Proofs.Ytgpnopiinogkmaa
set_option maxRecDepth 100000
/-- A series without roundings. -/
def hoE (L : Nat → Int) (w : Int) : Nat → Int
  | 0 => L 0
  | k + 1 => L (k + 1) * 1073741824 ^ (2 * (k + 1)) + w * w * hoE L w k
theorem ser_err {w z : Int} {L : Nat → Int} (hL : ∀ k, -1073741824 ≤ L k ∧ L k ≤ 1073741824) (hz : -1073741824 ≤ 2 * (1073741824 * z - w * w) ∧ 2 * (1073741824 * z - w * w) ≤ 1073741824) (hw : 0 ≤ w * w ∧ w * w ≤ 711180000000000000) :
    ∀ k, (-2899102925 ≤ serV z L k ∧ serV z L k ≤ 2899102925) ∧ -(8 * 1073741824 ^ (2 * k)) ≤ 1073741824 ^ (2 * k) * serV z L k - hoE L w k ∧ 1073741824 ^ (2 * k) * serV z L k - hoE L w k ≤ 8 * 1073741824 ^ (2 * k)
  | 0 => by
    have h := hL 0
    have e : serV z L 0 = L 0 := rfl
    have f : hoE L w 0 = L 0 := rfl
    rw [e, f]
    simp
    omega
  | k + 1 => by
    obtain ⟨hs, h1, h2⟩ := ser_err hL hz hw k
    have hl := hL (k + 1)
    have e : serV z L (k + 1) = addV (L (k + 1)) (mulV z (serV z L k) 30) := rfl
    have f : hoE L w (k + 1) = L (k + 1) * 1073741824 ^ (2 * (k + 1)) + w * w * hoE L w k := rfl
    rw [e, f]
    clear e f
    have hp : (0 : Int) ≤ 1073741824 ^ (2 * k) := Int.le_of_lt (Int.pow_pos (by decide))
    rw [show 2 * (k + 1) = 2 * k + 1 + 1 by omega, Int.pow_succ, Int.pow_succ]
    generalize (1073741824 : Int) ^ (2 * k) = P at *
    generalize serV z L k = s at *
    generalize hoE L w k = H at *
    generalize L (k + 1) = l at *
    have zb : -662400000 ≤ z ∧ z ≤ 662400000 := by omega
    have m := ml_big (a := z) (b := s) (X := 662400000) (Y := 2899102925) zb hs (by decide) (by decide) (by decide)
    have r := rsh_err (z * s)
    rw [← m.1] at r
    obtain ⟨p, hp2⟩ : ∃ p, mulV z s 30 = p := ⟨_, rfl⟩
    rw [hp2] at m r ⊢
    have ea : addV l p = l + p := by
      unfold addV; rw [satV_id (a := l) (by omega) (by omega), satV_id (a := p) (by omega) (by omega), satV_id (by omega) (by omega)]
    rw [ea]
    refine ⟨by omega, ?_⟩
    have PP : -P ≤ P ∧ P ≤ P := by omega
    have t1 := mul_bd PP (y := 1073741824 * (2 * (1073741824 * p - z * s))) (Y := 1073741824 * 1073741824) ⟨by omega, by omega⟩
    have t2 := mul_bd (x := s) (y := 2 * (1073741824 * z - w * w)) (X := 2899102925) (Y := 1073741824) hs hz
    have t3 := mul_bd PP (y := s * (2 * (1073741824 * z - w * w))) (Y := 2899102925 * 1073741824) t2
    have t4 := mul_bd (x := w * w) (y := P * s - H) (X := 711180000000000000) (Y := 8 * P) ⟨by omega, by omega⟩ ⟨h1, h2⟩
    have id : 2 * (P * 1073741824 * 1073741824 * (l + p) - (l * (P * 1073741824 * 1073741824) + w * w * H)) = P * (1073741824 * (2 * (1073741824 * p - z * s))) + P * (s * (2 * (1073741824 * z - w * w))) + 2 * (w * w * (P * s - H)) := by grind
    generalize P * (1073741824 * (2 * (1073741824 * p - z * s))) = a1 at *
    generalize P * (s * (2 * (1073741824 * z - w * w))) = a2 at *
    generalize w * w * (P * s - H) = a3 at *
    generalize P * 1073741824 * 1073741824 * (l + p) - (l * (P * 1073741824 * 1073741824) + w * w * H) = A at *
    omega
theorem sinL_bd (k : Nat) : -1073741824 ≤ sinL k ∧ sinL k ≤ 1073741824 := by unfold sinL; split <;> decide
theorem cosL_bd (k : Nat) : -1073741824 ≤ cosL k ∧ cosL k ≤ 1073741824 := by unfold cosL; split <;> decide
theorem sF_ho (w : Int) : sF w = 1073741824 * (w * hoE sinL w 5) := by
  unfold sF sinP
  simp only [pv, hoE, sinL]
  grind
theorem cF_ho (w : Int) : cF w = hoE cosL w 6 := by
  unfold cF cosP
  simp only [pv, hoE, cosL]
  grind
theorem sq_z {w : Int} (hw : -843314858 ≤ w ∧ w ≤ 843314858) : (-1073741824 ≤ 2 * (1073741824 * mulV w w 30 - w * w) ∧ 2 * (1073741824 * mulV w w 30 - w * w) ≤ 1073741824) ∧ 0 ≤ w * w ∧ w * w ≤ 711180000000000000 := by
  have m := ml_big (a := w) (b := w) (X := 843314858) (Y := 843314858) hw hw (by decide) (by decide) (by decide)
  have r := rsh_err (w * w)
  have b := mul_bd hw hw
  rw [m.1]
  exact ⟨r, sq_nonneg w, by omega⟩
/-- The sine of a small angle. -/
theorem sn1_err {w : Int} (hw : -843314858 ≤ w ∧ w ≤ 843314858) : -(8 * 1073741824 ^ 12) ≤ 1073741824 ^ 12 * sn1V w - sF w ∧ 1073741824 ^ 12 * sn1V w - sF w ≤ 8 * 1073741824 ^ 12 := by
  obtain ⟨hz, hq⟩ := sq_z hw
  obtain ⟨hs, h1, h2⟩ := ser_err (L := sinL) sinL_bd hz hq 5
  rw [sF_ho]
  unfold sn1V
  generalize serV (mulV w w 30) sinL 5 = s at *
  generalize hoE sinL w 5 = H at *
  have m := ml_big (a := w) (b := s) (X := 843314858) (Y := 2899102925) hw hs (by decide) (by decide) (by decide)
  have r := rsh_err (w * s)
  rw [m.1]
  generalize rsh (w * s) 30 = p at *
  have t := mul_bd (x := w) (y := 1073741824 ^ (2 * 5) * s - H) (X := 843314858) (Y := 8 * 1073741824 ^ (2 * 5)) hw ⟨h1, h2⟩
  have id : 1073741824 ^ 12 * p - 1073741824 * (w * H) = 1073741824 ^ 11 * (1073741824 * p - w * s) + 1073741824 * (w * (1073741824 ^ (2 * 5) * s - H)) := by grind
  rw [id]
  generalize w * (1073741824 ^ (2 * 5) * s - H) = a at *
  generalize w * s = b at *
  omega
theorem cs1_err {w : Int} (hw : -843314858 ≤ w ∧ w ≤ 843314858) : -(8 * 1073741824 ^ 12) ≤ 1073741824 ^ 12 * cs1V w - cF w ∧ 1073741824 ^ 12 * cs1V w - cF w ≤ 8 * 1073741824 ^ 12 := by
  obtain ⟨hz, hq⟩ := sq_z hw
  obtain ⟨hs, h1, h2⟩ := ser_err (L := cosL) cosL_bd hz hq 6
  rw [cF_ho]
  exact ⟨h1, h2⟩
end Go.Proofs.Ytgpnopiinogkmaa
/- Unit of what is a Unit's already stays where it is, within 64. No program. -/
namespace Go.Proofs.Ytgpnopiinogkmaa
set_option maxRecDepth 100000
end Go.Proofs.Ytgpnopiinogkmaa
/- Unit of a quaternion about the upright axis whose length is near One stays near. No program. -/
namespace Go.Proofs.Ytgpnopiinogkmaa
set_option maxRecDepth 100000
theorem uniT_n34 (B : Nat → Int) (hB : ∀ i, i < 4 → -1073741864 ≤ B i ∧ B i ≤ 1073741864) (hS : 1152921468099624960 ≤ sum4 B ∧ sum4 B ≤ 1152921541114068992) : ∀ i, i < 4 → -19 ≤ uniT B i - B i ∧ uniT B i - B i ≤ 19 := by
  have hw : ∀ i, i < 4 → -1152921504606846976 ≤ B i ∧ B i ≤ 1152921504606846976 := fun i hi => by have := hB i hi; omega
  obtain ⟨R, hR⟩ : ∃ R : Int, ((rootV (dotS B B 4).toNat : Nat) : Int) = R := ⟨_, rfl⟩
  obtain ⟨a1, a2, a3, a4⟩ := hyp_root B hw R hR
  rw [show B 0 * B 0 + B 1 * B 1 + B 2 * B 2 + B 3 * B 3 = sum4 B from rfl] at a2 a3
  generalize sum4 B = S at *
  have l1 : 1073741806 ≤ R := by
    rcases int_lt_or_ge 1073741805 R with h | h
    · omega
    · exfalso
      have := Int.mul_le_mul h h a1 (by decide)
      omega
  have l2 : R ≤ 1073741842 := by
    rcases int_lt_or_ge R 1073741843 with h | h
    · omega
    · exfalso
      have := Int.mul_le_mul (show (1073741843 : Int) ≤ R from h) (show (1073741842 : Int) ≤ R - 1 by omega) (by decide) (by omega)
      rw [Int.mul_sub, Int.mul_one] at this
      rcases a2 with a2 | a2
      · omega
      · omega
  rw [if_neg (by omega)] at a4
  intro i hi
  have hb := hB i hi
  have hd := rdiv_err (x := B i * 1073741824) (d := R) (by omega)
  obtain ⟨q, hq⟩ : ∃ q, rdiv (B i * 1073741824) R = q := ⟨_, rfl⟩
  rw [hq] at hd
  have hm := mul_bd (x := R - 1073741824) (y := B i) (X := 18) (Y := 1073741864) ⟨by omega, by omega⟩ ⟨by omega, by omega⟩
  rw [Int.sub_mul] at hm
  have hqd : -19 ≤ q - B i ∧ q - B i ≤ 19 := by
    have e : R * q = R * B i + R * (q - B i) := by rw [Int.mul_sub]; omega
    rw [e] at hd
    rw [Int.mul_comm (B i) 1073741824] at hd
    constructor
    · rcases int_lt_or_ge (q - B i) (-19) with h | h
      · exfalso
        have := Int.mul_le_mul_of_nonneg_left (show q - B i ≤ -20 by omega) (show (0 : Int) ≤ R by omega)
        omega
      · omega
    · rcases int_lt_or_ge 19 (q - B i) with h | h
      · exfalso
        have := Int.mul_le_mul_of_nonneg_left (show (20 : Int) ≤ q - B i by omega) (show (0 : Int) ≤ R by omega)
        omega
      · omega
  have hu : uniT B i = q := by
    unfold uniT
    rw [a4, ← hq]
    exact (divV_q _ _ (hw i hi) ⟨by omega, by omega⟩ (by rw [hq]; omega)).1
  rw [hu]
  exact hqd
theorem uniT_n120 (B : Nat → Int) (hB : ∀ i, i < 4 → -1073741904 ≤ B i ∧ B i ≤ 1073741904) (hS : 1152921375757828096 ≤ sum4 B ∧ sum4 B ≤ 1152921633455865856) : ∀ i, i < 4 → -62 ≤ uniT B i - B i ∧ uniT B i - B i ≤ 62 := by
  have hw : ∀ i, i < 4 → -1152921504606846976 ≤ B i ∧ B i ≤ 1152921504606846976 := fun i hi => by have := hB i hi; omega
  obtain ⟨R, hR⟩ : ∃ R : Int, ((rootV (dotS B B 4).toNat : Nat) : Int) = R := ⟨_, rfl⟩
  obtain ⟨a1, a2, a3, a4⟩ := hyp_root B hw R hR
  rw [show B 0 * B 0 + B 1 * B 1 + B 2 * B 2 + B 3 * B 3 = sum4 B from rfl] at a2 a3
  generalize sum4 B = S at *
  have l1 : 1073741763 ≤ R := by
    rcases int_lt_or_ge 1073741762 R with h | h
    · omega
    · exfalso
      have := Int.mul_le_mul h h a1 (by decide)
      omega
  have l2 : R ≤ 1073741885 := by
    rcases int_lt_or_ge R 1073741886 with h | h
    · omega
    · exfalso
      have := Int.mul_le_mul (show (1073741886 : Int) ≤ R from h) (show (1073741885 : Int) ≤ R - 1 by omega) (by decide) (by omega)
      rw [Int.mul_sub, Int.mul_one] at this
      rcases a2 with a2 | a2
      · omega
      · omega
  rw [if_neg (by omega)] at a4
  intro i hi
  have hb := hB i hi
  have hd := rdiv_err (x := B i * 1073741824) (d := R) (by omega)
  obtain ⟨q, hq⟩ : ∃ q, rdiv (B i * 1073741824) R = q := ⟨_, rfl⟩
  rw [hq] at hd
  have hm := mul_bd (x := R - 1073741824) (y := B i) (X := 61) (Y := 1073741904) ⟨by omega, by omega⟩ ⟨by omega, by omega⟩
  rw [Int.sub_mul] at hm
  have hqd : -62 ≤ q - B i ∧ q - B i ≤ 62 := by
    have e : R * q = R * B i + R * (q - B i) := by rw [Int.mul_sub]; omega
    rw [e] at hd
    rw [Int.mul_comm (B i) 1073741824] at hd
    constructor
    · rcases int_lt_or_ge (q - B i) (-62) with h | h
      · exfalso
        have := Int.mul_le_mul_of_nonneg_left (show q - B i ≤ -63 by omega) (show (0 : Int) ≤ R by omega)
        omega
      · omega
    · rcases int_lt_or_ge 62 (q - B i) with h | h
      · exfalso
        have := Int.mul_le_mul_of_nonneg_left (show (63 : Int) ≤ q - B i by omega) (show (0 : Int) ≤ R by omega)
        omega
      · omega
  have hu : uniT B i = q := by
    unfold uniT
    rw [a4, ← hq]
    exact (divV_q _ _ (hw i hi) ⟨by omega, by omega⟩ (by rw [hq]; omega)).1
  rw [hu]
  exact hqd
theorem sq_d {a b d : Int} (ha : -1073741870 ≤ a ∧ a ≤ 1073741870) (h : -19 ≤ b - a ∧ b - a ≤ 19) : -40802191421 ≤ b * b - a * a ∧ b * b - a * a ≤ 40802191421 := by
  have e : b * b - a * a = (b - a) * (b + a) := by grind
  have m := mul_bd (x := b - a) (y := b + a) (X := 19) (Y := 2147483759) h ⟨by omega, by omega⟩
  rw [e]; omega
/-- Unit, of what stands upright. -/
theorem uni_up {c s : Int} (hc : -1073741860 ≤ c ∧ c ≤ 1073741860) (hs : -1073741860 ≤ s ∧ s ≤ 1073741860) (hn : 1152921468099624960 ≤ c * c + s * s ∧ c * c + s * s ≤ 1152921541114068992) :
    (-81 ≤ uniV (q4 c 0 0 s) 0 - c ∧ uniV (q4 c 0 0 s) 0 - c ≤ 81) ∧ (-81 ≤ uniV (q4 c 0 0 s) 3 - s ∧ uniV (q4 c 0 0 s) 3 - s ≤ 81) := by
  have hb := q4_bd (B := 1073741860) hc (show -1073741860 ≤ (0 : Int) ∧ (0 : Int) ≤ 1073741860 by decide) (show -1073741860 ≤ (0 : Int) ∧ (0 : Int) ≤ 1073741860 by decide) hs
  have h0 : q4 c 0 0 s 0 = c := rfl
  have h1 : q4 c 0 0 s 1 = 0 := rfl
  have h2 : q4 c 0 0 s 2 = 0 := rfl
  have h3 : q4 c 0 0 s 3 = s := rfl
  obtain ⟨Q, hQ⟩ : ∃ Q, q4 c 0 0 s = Q := ⟨_, rfl⟩
  rw [hQ] at h0 h1 h2 h3 hb ⊢
  clear hQ
  have e : ∀ i, i < 4 → satA Q i = Q i := fun i hi => satV_id (by have := hb i hi; omega) (by have := hb i hi; omega)
  have hsum : sum4 (satA Q) = c * c + s * s := by
    unfold sum4; rw [e 0 (by decide), e 1 (by decide), e 2 (by decide), e 3 (by decide), h0, h1, h2, h3]; omega
  have hz : ¬ zer4 (satA Q) = true := by
    intro h
    unfold zer4 at h
    simp only [Bool.and_eq_true, decide_eq_true_eq] at h
    rw [e 0 (by decide), e 1 (by decide), e 2 (by decide), e 3 (by decide), h0, h1, h2, h3] at h
    obtain ⟨⟨⟨e0, e1⟩, e2⟩, e3⟩ := h
    rw [e0, e3] at hn
    omega
  have A := uniT_n34 (satA Q) (fun i hi => by rw [e i hi]; have := hb i hi; omega) (by rw [hsum]; omega)
  have A0 := A 0 (by decide)
  have A3 := A 3 (by decide)
  rw [e 0 (by decide), h0] at A0
  rw [e 3 (by decide), h3] at A3
  have T1 : uniT (satA Q) 1 = 0 := by unfold uniT; rw [e 1 (by decide), h1]; exact rs_div0 _
  have T2 : uniT (satA Q) 2 = 0 := by unfold uniT; rw [e 2 (by decide), h2]; exact rs_div0 _
  have hv : uniV Q = uniT (uniT (satA Q)) := by unfold uniV; rw [if_neg hz]
  rw [hv]
  obtain ⟨T, hT⟩ : ∃ T, uniT (satA Q) = T := ⟨_, rfl⟩
  rw [hT] at A0 A3 T1 T2 ⊢
  clear A hT hv hz hsum e
  have s0 := sq_d (d := 0) (a := c) (b := T 0) (by omega) A0
  have s3 := sq_d (d := 0) (a := s) (b := T 3) (by omega) A3
  have B := uniT_n120 T (fun i hi => by
    rcases (show i = 0 ∨ i = 1 ∨ i = 2 ∨ i = 3 by omega) with rfl | rfl | rfl | rfl
    · omega
    · rw [T1]; decide
    · rw [T2]; decide
    · omega) (by
    unfold sum4
    rw [T1, T2]
    generalize T 0 * T 0 = t0 at *
    generalize T 3 * T 3 = t3 at *
    generalize c * c = c2 at *
    generalize s * s = s2 at *
    omega)
  have B0 := B 0 (by decide)
  have B3 := B 3 (by decide)
  generalize uniT T 0 = x at *
  generalize uniT T 3 = y at *
  omega
end Go.Proofs.Ytgpnopiinogkmaa
/- The rotation of a heading sets no flag (plain law). No program. -/
namespace Go.Proofs.Ytgpnopiinogkmaa
theorem ser_step {z s l B C : Int} (hz : -2684354560 ≤ z ∧ z ≤ 2684354560) (hs : -B ≤ s ∧ s ≤ B) (hl : -1073741824 ≤ l ∧ l ≤ 1073741824) (hB : B ≤ 1000000000000) (hC : 1073741824 * 1073741824 + 2684354560 * B + 1073741824 ≤ 1073741824 * C) (hC2 : C ≤ 1000000000000000) :
    mulH z s 30 = false ∧ addH l (mulV z s 30) = false ∧ (-C ≤ addV l (mulV z s 30) ∧ addV l (mulV z s 30) ≤ C) := by
  have m := ml_big (a := z) (b := s) (X := 2684354560) (Y := B) hz hs (by decide) (by omega) (by omega)
  obtain ⟨p, hp⟩ : ∃ p, mulV z s 30 = p := ⟨_, rfl⟩
  rw [hp] at m ⊢
  have pb : -(C - 1073741824) ≤ p ∧ p ≤ C - 1073741824 := by omega
  refine ⟨m.2.1, ?_⟩
  unfold addH addV
  rw [satV_id (a := l) (by omega) (by omega), satV_id (a := p) (by omega) (by omega), satH_no (a := l) (by omega) (by omega), satH_no (a := p) (by omega) (by omega), satH_no (a := l + p) (by omega) (by omega), satV_id (a := l + p) (by omega) (by omega)]
  exact ⟨rfl, by omega, by omega⟩
theorem ser_sinL {z : Int} (hz : -2684354560 ≤ z ∧ z ≤ 2684354560) : serH z sinL 5 = false ∧ (-174046838969 ≤ serV z sinL 5 ∧ serV z sinL 5 ≤ 174046838969) := by
  have b0 : -1073741824 ≤ serV z sinL 0 ∧ serV z sinL 0 ≤ 1073741824 := by show -1073741824 ≤ sinL 0 ∧ sinL 0 ≤ 1073741824; decide
  have s0 := ser_step (z := z) (s := serV z sinL 0) (l := sinL 1) (B := 1073741824) (C := 3758096387) hz b0 (by decide) (by decide) (by decide) (by decide)
  have b1 : -3758096387 ≤ serV z sinL 1 ∧ serV z sinL 1 ≤ 3758096387 := s0.2.2
  have s1 := ser_step (z := z) (s := serV z sinL 1) (l := sinL 2) (B := 3758096387) (C := 10468982794) hz b1 (by decide) (by decide) (by decide) (by decide)
  have b2 : -10468982794 ≤ serV z sinL 2 ∧ serV z sinL 2 ≤ 10468982794 := s1.2.2
  have s2 := ser_step (z := z) (s := serV z sinL 2) (l := sinL 3) (B := 10468982794) (C := 27246198812) hz b2 (by decide) (by decide) (by decide) (by decide)
  have b3 : -27246198812 ≤ serV z sinL 3 ∧ serV z sinL 3 ≤ 27246198812 := s2.2.2
  have s3 := ser_step (z := z) (s := serV z sinL 3) (l := sinL 4) (B := 27246198812) (C := 69189238857) hz b3 (by decide) (by decide) (by decide) (by decide)
  have b4 : -69189238857 ≤ serV z sinL 4 ∧ serV z sinL 4 ≤ 69189238857 := s3.2.2
  have s4 := ser_step (z := z) (s := serV z sinL 4) (l := sinL 5) (B := 69189238857) (C := 174046838969) hz b4 (by decide) (by decide) (by decide) (by decide)
  have b5 : -174046838969 ≤ serV z sinL 5 ∧ serV z sinL 5 ≤ 174046838969 := s4.2.2
  refine ⟨?_, b5⟩
  simp only [serH]
  rw [s0.1, s0.2.1, s1.1, s1.2.1, s2.1, s2.2.1, s3.1, s3.2.1, s4.1, s4.2.1]
  rfl
theorem ser_cosL {z : Int} (hz : -2684354560 ≤ z ∧ z ≤ 2684354560) : serH z cosL 6 = false ∧ (-436190839249 ≤ serV z cosL 6 ∧ serV z cosL 6 ≤ 436190839249) := by
  have b0 : -1073741824 ≤ serV z cosL 0 ∧ serV z cosL 0 ≤ 1073741824 := by show -1073741824 ≤ cosL 0 ∧ cosL 0 ≤ 1073741824; decide
  have s0 := ser_step (z := z) (s := serV z cosL 0) (l := cosL 1) (B := 1073741824) (C := 3758096387) hz b0 (by decide) (by decide) (by decide) (by decide)
  have b1 : -3758096387 ≤ serV z cosL 1 ∧ serV z cosL 1 ≤ 3758096387 := s0.2.2
  have s1 := ser_step (z := z) (s := serV z cosL 1) (l := cosL 2) (B := 3758096387) (C := 10468982794) hz b1 (by decide) (by decide) (by decide) (by decide)
  have b2 : -10468982794 ≤ serV z cosL 2 ∧ serV z cosL 2 ≤ 10468982794 := s1.2.2
  have s2 := ser_step (z := z) (s := serV z cosL 2) (l := cosL 3) (B := 10468982794) (C := 27246198812) hz b2 (by decide) (by decide) (by decide) (by decide)
  have b3 : -27246198812 ≤ serV z cosL 3 ∧ serV z cosL 3 ≤ 27246198812 := s2.2.2
  have s3 := ser_step (z := z) (s := serV z cosL 3) (l := cosL 4) (B := 27246198812) (C := 69189238857) hz b3 (by decide) (by decide) (by decide) (by decide)
  have b4 : -69189238857 ≤ serV z cosL 4 ∧ serV z cosL 4 ≤ 69189238857 := s3.2.2
  have s4 := ser_step (z := z) (s := serV z cosL 4) (l := cosL 5) (B := 69189238857) (C := 174046838969) hz b4 (by decide) (by decide) (by decide) (by decide)
  have b5 : -174046838969 ≤ serV z cosL 5 ∧ serV z cosL 5 ≤ 174046838969 := s4.2.2
  have s5 := ser_step (z := z) (s := serV z cosL 5) (l := cosL 6) (B := 174046838969) (C := 436190839249) hz b5 (by decide) (by decide) (by decide) (by decide)
  have b6 : -436190839249 ≤ serV z cosL 6 ∧ serV z cosL 6 ≤ 436190839249 := s5.2.2
  refine ⟨?_, b6⟩
  simp only [serH]
  rw [s0.1, s0.2.1, s1.1, s1.2.1, s2.1, s2.2.1, s3.1, s3.2.1, s4.1, s4.2.1, s5.1, s5.2.1]
  rfl
theorem qrt_calm {w : Int} (h : -1686629713 ≤ w ∧ w ≤ 1686629713) : qrtH w = false := by
  have a : 0 ≤ absV w ∧ absV w ≤ 1686629713 := by unfold absV; rw [if_neg (by omega)]; split <;> omega
  have sq : ∀ x : Int, -1686629713 ≤ x ∧ x ≤ 1686629713 → mulH x x 30 = false ∧ -2684354560 ≤ mulV x x 30 ∧ mulV x x 30 ≤ 2684354560 := fun x hx => by
    have m := ml_big (a := x) (b := x) (X := 1686629713) (Y := 1686629713) hx hx (by decide) (by decide) (by decide)
    exact ⟨m.2.1, by omega⟩
  unfold qrtH
  split
  · have m := sq w h
    have s := ser_sinL m.2
    have p := ml_big (a := w) (b := serV (mulV w w 30) sinL 5) (X := 1686629713) (Y := 174046838969) h s.2 (by decide) (by decide) (by decide)
    unfold sn1H
    rw [m.1, s.1, p.2.1]; rfl
  · have m := sq (1686629713 - absV w) (by omega)
    have s := ser_cosL m.2
    unfold cs1H
    rw [m.1, s.1]; rfl
theorem sin_calm {a : Int} (h : -1000000000000 ≤ a ∧ a ≤ 1000000000000) : sinH a = false ∧ -1073741824 ≤ sinV a ∧ sinV a ≤ 1073741824 := by
  have e : satV a = a := satV_id (by omega) (by omega)
  have w := wrpV_bd a
  have f := fldV_bd w.1 w.2
  unfold sinH sinV oneC
  rw [e, qrt_calm f, satH_no (by omega) (by omega)]
  exact ⟨rfl, by omega, by omega⟩
theorem cos_calm {a : Int} : cosH a = false ∧ -1073741824 ≤ cosV a ∧ cosV a ≤ 1073741824 := by
  have w := wrpV_bd a
  unfold cosH cosV
  exact sin_calm (by omega)
theorem fy_calm (a : Int) : fyH a = false ∧ fyV a 1 = 0 ∧ fyV a 2 = 0 ∧ UnitQ (fyV a) := by
  have w := wrpV_bd a
  have m := ml_big (a := wrpV a) (b := 536870912) (X := 3373259426) (Y := 536870912) (by omega) (by decide) (by decide) (by decide) (by decide)
  have fm : -1000000000000 ≤ fyM a ∧ fyM a ≤ 1000000000000 := by unfold fyM; omega
  have s := sin_calm fm
  have c := cos_calm (a := fyM a)
  refine ⟨?_, rs_uni0 rfl (by decide), rs_uni0 rfl (by decide), unit_good _⟩
  unfold fyH
  rw [m.2.1, c.1, s.1, unit_calm _ fun i hi => by
    have := q4_bd (B := 1073741824) c.2 (show -1073741824 ≤ (0 : Int) ∧ (0 : Int) ≤ 1073741824 by decide) (show -1073741824 ≤ (0 : Int) ∧ (0 : Int) ≤ 1073741824 by decide) s.2 i hi
    omega]
  rfl
end Go.Proofs.Ytgpnopiinogkmaa
/- The rotations of a heading and of a turn about the upright axis lie near the polynomials. No program. -/
namespace Go.Proofs.Ytgpnopiinogkmaa
set_option maxRecDepth 100000
theorem wrp_id {a : Int} (h1 : -3373259426 < a) (h2 : a ≤ 3373259426) : wrpV a = a := by
  have e : a.tmod 6746518852 = a := by
    rcases Int.le_total 0 a with h | h
    · exact Int.tmod_eq_of_lt h (by omega)
    · have := Int.tmod_eq_of_lt (a := -a) (b := 6746518852) (by omega) (by omega)
      rw [Int.neg_tmod] at this
      omega
  unfold wrpV
  rw [e, if_neg (by omega), if_neg (by omega)]
/-- Near a polynomial's value. -/
def NrK (e p P : Int) : Prop := -(e * 1073741824 ^ 12) ≤ 1073741824 ^ 12 * p - P ∧ 1073741824 ^ 12 * p - P ≤ e * 1073741824 ^ 12
theorem NrK.neg {e p P : Int} (h : NrK e p P) : NrK e (-p) (-P) := by unfold NrK at *; rw [Int.mul_neg]; omega
theorem sq_up {c M : Int} (hM : 0 ≤ M) (h : c * c ≤ M * M) : -M ≤ c ∧ c ≤ M := by
  constructor
  · rcases int_lt_or_ge c (-M) with h1 | h1
    · have := Int.mul_le_mul (show M + 1 ≤ -c by omega) (show M + 1 ≤ -c by omega) (by omega) (by omega)
      rw [Int.neg_mul_neg, Int.mul_add, Int.add_mul, Int.mul_one, Int.one_mul] at this
      omega
    · exact h1
  · rcases int_lt_or_ge M c with h1 | h1
    · have := Int.mul_le_mul (show M + 1 ≤ c by omega) (show M + 1 ≤ c by omega) (by omega) (by omega)
      rw [Int.mul_add, Int.add_mul, Int.mul_one, Int.one_mul] at this
      omega
    · exact h1
theorem an_bd {h : Int} (hh : -1720184150 ≤ h ∧ h ≤ 1720184150) : (-(1073741825 * 1073741824 ^ 12) ≤ anC h ∧ anC h ≤ 1073741825 * 1073741824 ^ 12) ∧ (-(1073741825 * 1073741824 ^ 12) ≤ anS h ∧ anS h ≤ 1073741825 * 1073741824 ^ 12) := by
  have n := an_norm hh
  have p := sq_nonneg (anC h)
  have q := sq_nonneg (anS h)
  have e : (1073741825 * 1073741824 ^ 12 : Int) * (1073741825 * 1073741824 ^ 12) ≥ 1073741824 ^ 26 + 1073741824 ^ 25 := by decide
  exact ⟨sq_up (by decide) (by omega), sq_up (by decide) (by omega)⟩
theorem nr_one {e s S : Int} (he : 1 ≤ e) (h : NrK e s S) (b : -(1073741825 * 1073741824 ^ 12) ≤ S ∧ S ≤ 1073741825 * 1073741824 ^ 12) : NrK e (oneC s) S := by
  unfold NrK oneC at *
  rcases (show (min (max s (-1073741824)) 1073741824 = s) ∨ (min (max s (-1073741824)) 1073741824 = 1073741824 ∧ 1073741824 < s) ∨ (min (max s (-1073741824)) 1073741824 = -1073741824 ∧ s < -1073741824) by omega) with h1 | h1 | h1
  · rw [h1]; exact h
  · rw [h1.1]; omega
  · rw [h1.1]; omega
theorem qrt_nr {u : Int} (h1 : 0 ≤ u) (h2 : u ≤ 1686629713) : NrK 8 (qrtV u) (if u ≤ 843314857 then sF u else cF (1686629713 - u)) := by
  have a : absV u = u := by unfold absV; rw [if_neg (by omega)]; omega
  unfold qrtV
  rw [a]
  by_cases h : u ≤ 843314857
  · rw [if_pos h, if_pos h]; exact sn1_err ⟨by omega, by omega⟩
  · rw [if_neg h, if_neg h, if_neg (by omega)]; exact cs1_err ⟨by omega, by omega⟩
theorem qrt_neg {u : Int} (h1 : 0 < u) (h2 : u ≤ 1686629713) : NrK 8 (qrtV (-u)) (-(if u ≤ 843314857 then sF u else cF (1686629713 - u))) := by
  have a : absV (-u) = u := by unfold absV; rw [if_neg (by omega)]; omega
  unfold qrtV
  rw [a]
  by_cases h : u ≤ 843314857
  · rw [if_pos h, if_pos h, ← sF_neg]; exact sn1_err ⟨by omega, by omega⟩
  · rw [if_neg h, if_neg h, if_pos (by omega)]
    exact NrK.neg (cs1_err (w := 1686629713 - u) ⟨by omega, by omega⟩)
theorem fld_id {w : Int} (h1 : -1686629713 ≤ w) (h2 : w ≤ 1686629713) : fldV w = w := by unfold fldV; rw [if_neg (by omega), if_neg (by omega)]
theorem sin_nr {h : Int} (hh : -1686629713 ≤ h ∧ h ≤ 1686629713) : NrK 8 (sinV h) (anS h) := by
  unfold sinV
  rw [satV_id (by omega) (by omega), wrp_id (by omega) (by omega), fld_id hh.1 hh.2]
  refine nr_one (by decide) ?_ (an_bd ⟨by omega, by omega⟩).2
  rcases (show 0 ≤ h ∨ h < 0 by omega) with h0 | h0
  · have k := qrt_nr h0 hh.2
    unfold anS
    by_cases h1 : 843314857 < h
    · rw [if_pos h1]; rw [if_neg (by omega)] at k; exact k
    · rw [if_neg h1, if_neg (by omega)]; rw [if_pos (by omega)] at k; exact k
  · have k := qrt_neg (u := -h) (by omega) (by omega)
    rw [Int.neg_neg] at k
    unfold anS
    by_cases h1 : h < -843314857
    · rw [if_neg (by omega), if_pos h1]; rw [if_neg (by omega), show 1686629713 - -h = 1686629713 + h by omega] at k; exact k
    · rw [if_neg (by omega), if_neg h1]; rw [if_pos (by omega), sF_neg, Int.neg_neg] at k; exact k
theorem cos_nrP {h : Int} (h0 : 0 ≤ h) (h1 : h ≤ 1686629713) : NrK 10 (qrtV (1686629713 - h)) (anC h) := by
  have k := qrt_nr (u := 1686629713 - h) (by omega) (by omega)
  unfold NrK at *
  unfold anC
  by_cases c1 : 843314857 < h
  · rw [if_pos c1]; rw [if_pos (by omega)] at k; omega
  · rw [if_neg c1, if_neg (by omega)]
    by_cases c2 : 1686629713 - h ≤ 843314857
    · rw [if_pos c2] at k
      have n := sc_near (v := h - 843314857) ⟨by omega, by omega⟩
      rw [show 843314857 + (h - 843314857) = h by omega] at n
      omega
    · rw [if_neg c2, show 1686629713 - (1686629713 - h) = h by omega] at k
      omega
theorem cos_nr {h : Int} (hh : -1686629713 ≤ h ∧ h ≤ 1686629713) : NrK 10 (cosV h) (anC h) := by
  unfold cosV sinV
  rw [wrp_id (a := h) (by omega) (by omega), satV_id (by omega) (by omega), wrp_id (by omega) (by omega)]
  refine nr_one (by decide) ?_ (an_bd ⟨by omega, by omega⟩).1
  rcases (show 0 < h ∨ h ≤ 0 by omega) with h0 | h0
  · have f : fldV (1686629713 + h) = 1686629713 - h := by unfold fldV; rw [if_pos (by omega)]; omega
    rw [f]
    exact cos_nrP (by omega) hh.2
  · rw [fld_id (by omega) (by omega)]
    have k := cos_nrP (h := -h) (by omega) (by omega)
    rw [anC_neg, show 1686629713 - -h = 1686629713 + h by omega] at k
    exact k
theorem nr_bd {e p P : Int} (he : e ≤ 20) (h : NrK e p P) (b : -(1073741825 * 1073741824 ^ 12) ≤ P ∧ P ≤ 1073741825 * 1073741824 ^ 12) : -1073741850 ≤ p ∧ p ≤ 1073741850 := by
  unfold NrK at h
  omega
/-- The length of cosine and sine with their errors. -/
theorem raw_norm {c s C S : Int} (hc : NrK 10 c C) (hs : NrK 9 s S) (bC : -(1073741825 * 1073741824 ^ 12) ≤ C ∧ C ≤ 1073741825 * 1073741824 ^ 12) (bS : -(1073741825 * 1073741824 ^ 12) ≤ S ∧ S ≤ 1073741825 * 1073741824 ^ 12)
    (n : -(1073741824 ^ 25) ≤ C * C + S * S - 1073741824 ^ 26 ∧ C * C + S * S - 1073741824 ^ 26 ≤ 1073741824 ^ 25) :
    1152921468099624960 ≤ c * c + s * s ∧ c * c + s * s ≤ 1152921541114068992 := by
  obtain ⟨x, hx⟩ : ∃ x, 1073741824 ^ 12 * c - C = x := ⟨_, rfl⟩
  obtain ⟨y, hy⟩ : ∃ y, 1073741824 ^ 12 * s - S = y := ⟨_, rfl⟩
  unfold NrK at hc hs
  rw [hx] at hc
  rw [hy] at hs
  have id : 1073741824 ^ 24 * (c * c + s * s) = C * C + S * S + 2 * (C * x + S * y) + (x * x + y * y) := by
    have e1 : 1073741824 ^ 12 * c = C + x := by omega
    have e2 : 1073741824 ^ 12 * s = S + y := by omega
    have f : 1073741824 ^ 24 * (c * c + s * s) = (1073741824 ^ 12 * c) * (1073741824 ^ 12 * c) + (1073741824 ^ 12 * s) * (1073741824 ^ 12 * s) := by grind
    rw [f, e1, e2]; grind
  have hxx := mul_bd hc hc
  have hyy := mul_bd hs hs
  -- (C x + S y)^2 <= (C C + S S) (x x + y y)
  have cs : (C * x + S * y) * (C * x + S * y) + (C * y - S * x) * (C * y - S * x) = (C * C + S * S) * (x * x + y * y) := by grind
  have q := sq_nonneg (C * y - S * x)
  have m := Int.mul_le_mul (show C * C + S * S ≤ 1073741824 ^ 26 + 1073741824 ^ 25 by omega) (show x * x + y * y ≤ 181 * 1073741824 ^ 24 by omega) (by have := sq_nonneg x; have := sq_nonneg y; omega) (by decide)
  have r := sq_up (c := C * x + S * y) (M := 14 * 1073741824 ^ 25) (by decide) (by
    have : (1073741824 ^ 26 + 1073741824 ^ 25 : Int) * (181 * 1073741824 ^ 24) ≤ 14 * 1073741824 ^ 25 * (14 * 1073741824 ^ 25) := by decide
    omega)
  have xx := sq_nonneg x
  have yy := sq_nonneg y
  generalize C * x + S * y = a at *
  generalize x * x = X at *
  generalize y * y = Y at *
  generalize C * C = CC at *
  generalize S * S = SS at *
  generalize c * c + s * s = N at *
  omega
theorem up_nr {c s C S : Int} (hc : NrK 10 c C) (hs : NrK 9 s S) (bC : -(1073741825 * 1073741824 ^ 12) ≤ C ∧ C ≤ 1073741825 * 1073741824 ^ 12) (bS : -(1073741825 * 1073741824 ^ 12) ≤ S ∧ S ≤ 1073741825 * 1073741824 ^ 12)
    (n : -(1073741824 ^ 25) ≤ C * C + S * S - 1073741824 ^ 26 ∧ C * C + S * S - 1073741824 ^ 26 ≤ 1073741824 ^ 25) :
    NrK 92 (uniV (q4 c 0 0 s) 0) C ∧ NrK 92 (uniV (q4 c 0 0 s) 3) S := by
  have b1 := nr_bd (by decide) hc bC
  have b2 := nr_bd (by decide) hs bS
  obtain ⟨u0, u3⟩ := uni_up (c := c) (s := s) ⟨by omega, by omega⟩ ⟨by omega, by omega⟩ (raw_norm hc hs bC bS n)
  unfold NrK at *
  generalize uniV (q4 c 0 0 s) 0 = p at *
  generalize uniV (q4 c 0 0 s) 3 = q at *
  constructor <;> omega
theorem half_bd {a : Int} (h : -3373259426 ≤ a ∧ a ≤ 3373259426) : (-1 ≤ 2 * mulV a 536870912 30 - a ∧ 2 * mulV a 536870912 30 - a ≤ 1) ∧ -1686629713 ≤ mulV a 536870912 30 ∧ mulV a 536870912 30 ≤ 1686629713 := by
  have m := ml_big (a := a) (b := 536870912) (X := 3373259426) (Y := 536870912) h (by decide) (by decide) (by decide) (by decide)
  have r := rsh_err (a * 536870912)
  rw [m.1]
  omega
/-- The rotation of a heading. -/
theorem fy_nr (a : Int) : NrK 92 (fyV a 0) (anC (fyM a)) ∧ NrK 92 (fyV a 3) (anS (fyM a)) := by
  have w := wrpV_bd a
  have f := (half_bd (a := wrpV a) ⟨by omega, by omega⟩).2
  have c := cos_nr (h := fyM a) f
  have s := sin_nr (h := fyM a) f
  have b := an_bd (h := fyM a) (by unfold fyM; omega)
  have n := an_norm (h := fyM a) (by unfold fyM; omega)
  unfold fyV
  refine up_nr c ?_ b.1 b.2 n
  unfold NrK at *
  omega
end Go.Proofs.Ytgpnopiinogkmaa
/- The rotation of a turn about the upright axis. No program. -/
namespace Go.Proofs.Ytgpnopiinogkmaa
set_option maxRecDepth 100000
/-- Half of a turn, with its sign. -/
def tuH (a : Int) : Int := if a < 0 then -(mulV (-a) 536870912 30) else mulV a 536870912 30
theorem tuH_bd {a : Int} (h : -67108864 ≤ a ∧ a ≤ 67108864) : (-1 ≤ 2 * tuH a - a ∧ 2 * tuH a - a ≤ 1) ∧ -33554433 ≤ tuH a ∧ tuH a ≤ 33554433 := by
  unfold tuH
  by_cases h0 : a < 0
  · rw [if_pos h0]
    have := half_bd (a := -a) ⟨by omega, by omega⟩
    omega
  · rw [if_neg h0]
    have := half_bd (a := a) ⟨by omega, by omega⟩
    omega
theorem root_sq (m : Nat) (hm : m < 2 ^ 40) : rootV (m * m) = m := by
  have hA : m * m < 2 ^ 128 := by
    have : m * m ≤ 2 ^ 40 * 2 ^ 40 := Nat.mul_le_mul (by omega) (by omega)
    have e : (2 ^ 40 * 2 ^ 40 : Nat) < 2 ^ 128 := by decide
    omega
  obtain ⟨h1, h2⟩ := rootV_spec (m * m) hA
  generalize rootV (m * m) = r at *
  have l1 : m ≤ r := by
    rcases Nat.lt_or_ge r m with h | h
    · have : (r + 1) * (r + 1) ≤ m * m := Nat.mul_le_mul (by omega) (by omega)
      rw [Nat.add_mul, Nat.mul_add, Nat.one_mul, Nat.mul_one] at this
      omega
    · exact h
  rcases h1 with h1 | h1
  · omega
  · rcases Nat.lt_or_ge m r with h | h
    · obtain ⟨d, rfl⟩ : ∃ d, r = m + 1 + d := ⟨r - (m + 1), by omega⟩
      have e : (m + 1 + d) * (m + 1 + d) = m * m + 2 * m + 1 + 2 * (m * d) + 2 * d + d * d := by grind
      have p : 0 ≤ m * d := Nat.zero_le _
      have q : 0 ≤ d * d := Nat.zero_le _
      omega
    · omega
theorem exU_up {v : Nat → Int} {a : Int} (h0 : v 0 = 0) (h1 : v 1 = 0) (h2 : v 2 = a) (ha : -67108864 ≤ a ∧ a ≤ 67108864) : exU v = absV a := by
  have e : dotS (satA v) (satA v) 3 = a * a := by
    simp only [dotS, satA]
    rw [h0, h1, h2, show satV 0 = 0 by decide, show satV 0 = 0 by decide, satV_id (a := a) (by omega) (by omega), satV_id (a := a) (by omega) (by omega)]
    omega
  have f : (a * a).toNat = a.natAbs * a.natAbs := by
    rw [← Int.natAbs_mul]
    have := sq_nonneg a
    omega
  have g := root_sq a.natAbs (by omega)
  unfold exU hypV
  rw [e, f, g]
  have b : absV a = (a.natAbs : Int) := by unfold absV; rw [if_neg (by omega)]; split <;> omega
  rw [b]
  exact satV_id (by omega) (by omega)
/-- What the sine is taken by, and the angle again: the sine. -/
theorem ex_s {n s x a : Int} (hn : 0 < n) (hn2 : n ≤ 67108864) (hs : -n ≤ 2 * (n * s - x * 1073741824) ∧ 2 * (n * s - x * 1073741824) ≤ n) (ha : a = n ∨ a = -n) (p : Int) (hp : -1073741824 ≤ 2 * (1073741824 * p - a * s) ∧ 2 * (1073741824 * p - a * s) ≤ 1073741824) : p = if a < 0 then -x else x := by
  rcases ha with rfl | rfl
  · rw [if_neg (by omega)]
    generalize a * s = q at *
    omega
  · rw [if_pos (by omega)]
    rw [Int.neg_mul] at hp
    generalize n * s = q at *
    omega
theorem ml_zero2 (b : Int) : mulV 0 b 30 = 0 := by
  unfold mulV
  rw [if_neg (by decide), show satV 0 = 0 by decide, Int.zero_mul]; decide
theorem anC_0 : anC 0 = 1073741824 ^ 13 := by decide +kernel
theorem anS_0 : anS 0 = 0 := by decide +kernel
/-- A turn about the upright axis. -/
theorem ex_nr {v : Nat → Int} {a : Int} (h0 : v 0 = 0) (h1 : v 1 = 0) (h2 : v 2 = a) (ha : -67108864 ≤ a ∧ a ≤ 67108864) :
    NrK 92 (exV v 0) (anC (tuH a)) ∧ NrK 92 (exV v 3) (anS (tuH a)) ∧ exV v 1 = 0 ∧ exV v 2 = 0 ∧ UnitQ (exV v) := by
  have u := exU_up h0 h1 h2 ha
  obtain ⟨n, hn⟩ : ∃ n, absV a = n := ⟨_, rfl⟩
  rw [hn] at u
  have nb : 0 ≤ n ∧ n ≤ 67108864 ∧ (n = 0 ↔ a = 0) ∧ (a = n ∨ a = -n) := by
    rw [← hn]; unfold absV; rw [if_neg (by omega)]; split <;> omega
  by_cases hz : n = 0
  · have az : a = 0 := nb.2.2.1.1 hz
    have e : exV v = oneQ := by unfold exV; rw [if_pos (by rw [u]; exact hz)]
    have t : tuH a = 0 := by rw [az]; decide
    rw [e, t, anC_0, anS_0]
    exact ⟨by unfold NrK; decide, by unfold NrK; decide, by decide, by decide, unit_oneQ⟩
  · have hM := half_bd (a := n) ⟨by omega, by omega⟩
    obtain ⟨M, hMe⟩ : ∃ M, mulV n 536870912 30 = M := ⟨_, rfl⟩
    have hT : tuH a = if a < 0 then -M else M := by
      unfold tuH
      rcases nb.2.2.2 with h | h
      · rw [if_neg (by omega), if_neg (by omega), h, hMe]
      · rw [if_pos (by omega), if_pos (by omega), h, Int.neg_neg, hMe]
    have em : exM v = M := by unfold exM; rw [u, hMe]
    rw [hMe] at hM
    have sn := sin_nr (h := M) hM.2
    have cn := cos_nr (h := M) hM.2
    have mb : -1720184150 ≤ M ∧ M ≤ 1720184150 := ⟨Int.le_trans (by decide) hM.2.1, Int.le_trans hM.2.2 (by decide)⟩
    have bb := an_bd (h := M) mb
    have nn := an_norm (h := M) mb
    obtain ⟨x, hx⟩ : ∃ x, sinV M = x := ⟨_, rfl⟩
    rw [hx] at sn
    have xb : -1073741824 ≤ x ∧ x ≤ 1073741824 := by rw [← hx]; exact (sin_calm ⟨Int.le_trans (by decide) hM.2.1, Int.le_trans hM.2.2 (by decide)⟩).2
    have hd := rdiv_err (x := x * 1073741824) (d := n) (by omega)
    obtain ⟨s, hs⟩ : ∃ s, rdiv (x * 1073741824) n = s := ⟨_, rfl⟩
    rw [hs] at hd
    -- the sine is at most little more than half of the angle: by the error alone
    have sb : -1152921504606846976 ≤ s ∧ s ≤ 1152921504606846976 := by
      have hp : ∀ t : Int, 1152921504606846977 ≤ t → n * 1152921504606846977 ≤ n * t := fun t ht => Int.mul_le_mul_of_nonneg_left ht nb.1
      clear sn cn bb nn mb hM
      constructor
      · rcases int_lt_or_ge s (-1152921504606846976) with g | g
        · have := hp (-s) (by omega)
          rw [Int.mul_neg] at this
          omega
        · exact g
      · rcases int_lt_or_ge 1152921504606846976 s with g | g
        · have := hp s (by omega)
          omega
        · exact g
    have es : exS v = s := by
      unfold exS
      rw [em, u, hx, ← hs]
      exact (divV_q x n ⟨by omega, by omega⟩ ⟨by omega, by omega⟩ (by rw [hs]; exact sb)).1
    have sat2 : satA v 2 = a := by unfold satA; rw [h2]; exact satV_id (by omega) (by omega)
    have sat0 : satA v 0 = 0 := by unfold satA; rw [h0]; decide
    have sat1 : satA v 1 = 0 := by unfold satA; rw [h1]; decide
    have pe : mulV a s 30 = if a < 0 then -x else x := by
      have q : a * s = n * s ∨ a * s = -(n * s) := by
        rcases nb.2.2.2 with h | h
        · left; rw [h]
        · right; rw [h, Int.neg_mul]
      have ab : -(1152921504606846976 * 67108864) ≤ a * s ∧ a * s ≤ 1152921504606846976 * 67108864 := by
        rcases q with q | q <;> rw [q] <;> omega
      have r := rsh_err (a * s)
      have m := mulV_of (a := a) (b := s) (by unfold SB; omega) (by unfold SB; omega) (by
        unfold SB
        rcases q with q | q <;> rw [q] at r ⊢ <;> omega)
      rw [m.1]
      exact ex_s (by omega) nb.2.1 hd nb.2.2.2 _ r
    have eq : exQ v = q4 (cosV M) 0 0 (if a < 0 then -x else x) := by
      unfold exQ
      rw [em, es, sat0, sat1, sat2, ml_zero2, pe]
    have ev : exV v = uniV (q4 (cosV M) 0 0 (if a < 0 then -x else x)) := by
      unfold exV
      rw [if_neg (by rw [u]; exact hz), eq]
    rw [ev, hT]
    have z1 : q4 (cosV M) 0 0 (if a < 0 then -x else x) 1 = 0 := rfl
    have z2 : q4 (cosV M) 0 0 (if a < 0 then -x else x) 2 = 0 := rfl
    have sg : NrK 9 (if a < 0 then -x else x) (anS (if a < 0 then -M else M)) ∧ NrK 10 (cosV M) (anC (if a < 0 then -M else M)) := by
      by_cases g : a < 0
      · rw [if_pos g, if_pos g, anS_neg, anC_neg]
        refine ⟨?_, cn⟩
        have := sn.neg
        unfold NrK at *; omega
      · rw [if_neg g, if_neg g]
        refine ⟨?_, cn⟩
        unfold NrK at *; omega
    have mb2 : -1720184150 ≤ (if a < 0 then -M else M) ∧ (if a < 0 then -M else M) ≤ 1720184150 := by
      clear sg eq ev pe sat0 sat1 sat2 es sb hs hd xb sn cn bb nn em hT u hn hMe
      split <;> omega
    have hb2 := an_bd mb2
    have hn2 := an_norm mb2
    have k := up_nr sg.2 sg.1 hb2.1 hb2.2 hn2
    exact ⟨k.1, k.2, rs_uni0 z1 (by decide), rs_uni0 z2 (by decide), unit_good _⟩
end Go.Proofs.Ytgpnopiinogkmaa
