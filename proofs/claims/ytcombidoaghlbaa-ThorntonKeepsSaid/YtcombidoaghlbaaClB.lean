/- A step by One (but for a state that is forgotten), with noise: what At tells behind it (plain law of ThorntonKeeps, BlockGrows, BlockOthers). No program beyond the numbers' names. -/
import Derived.Test.YtcombidoaghlbaaClA
import Derived.Test.YtcombidoaghlbaaS01
namespace Go.Proofs.Ytcombidoaghlbaa
/-- kx is the state that is forgotten; 24: none. -/
structure TkH (p F q : Nat → Int) (kx : Nat) : Prop where
  u : ∀ x, x < 276 → ab (p x) ≤ 268435455
  d : ∀ i, i < 24 → 17179869184 ≤ p (276 + i) ∧ p (276 + i) ≤ 8813272891391
  f : ∀ i m, i < 24 → m < 24 → F (i * 24 + m) = if i = m ∧ i ≠ kx then 1073741824 else 0
  n : ∀ i, i < 24 → 0 ≤ q i ∧ q i ≤ 22000000000000 ∧ (i ≠ kx → q i ≤ 17592186044416)
  qk : kx < 24 → 1 ≤ q kx
/-- The factors alone, as the other law asks them (with any noise). -/
theorem TkH.cl {p F q : Nat → Int} {kx : Nat} (T : TkH p F q kx) : ClH p oneF (fun _ => 17179869184) where
  u := T.u
  d := T.d
  f := fun i m hi hm => by
    rw [oneF_at hm]
    split <;> simp [ab]
  q := fun i _ => by omega
section
variable {p F q : Nat → Int} {kx : Nat} (T : TkH p F q kx)
include T
theorem TkH.fs {x : Nat} (hx : x < 576) : satV (F x) = F x ∧ satH (F x) = false := by
  have := T.f (x / 24) (x % 24) (by omega) (by omega)
  rw [show x / 24 * 24 + x % 24 = x by omega] at this
  have s : SB (F x) := by rw [this]; unfold SB; split <;> omega
  exact ⟨satV_sb s, satH_sb s⟩
theorem TkH.w_left {i k : Nat} (hi : i < 24) (hk : k < 24) : stepW p F (i * 48 + k) = (if i = kx then 0 else uV p i k) ∧ rwB (condF p) (fS F 24 0) i k = false := by
  have C := T.cl
  have e1 : (i * 48 + k) / 48 = i := by omega
  have e2 : (i * 48 + k) % 48 = k := by omega
  have eF : ∀ m, m < 24 → rowF 24 (fS F 24 0) i m = F (i * 24 + m) := fun m hm => by
    have : (i * 24 + m) / 24 = i := by omega
    unfold rowF fS
    rw [this, if_pos (.inl hi)]; exact (T.fs (by omega)).1
  have eU : ∀ m, m < 24 → colF (condF p) k m = uV p m k := fun m hm => by
    unfold colF
    split
    · next h =>
      by_cases h2 : m = k
      · subst h2; rw [uV_self, uV_self]
      · rw [uV_up (by omega), uV_up (by omega), C.cond.1 _ (by have := pl_lt (i := m) (j := k) (by omega) hk; omega)]
    · rw [uV_low (by omega)]
  have hs : sg (fun m => rowF 24 (fS F 24 0) i m * colF (condF p) k m) 24 = 1073741824 * (if i = kx then 0 else uV p i k) := by
    by_cases h : i = kx
    · rw [if_pos h, sg_zero fun m hm => by rw [eF m hm, T.f i m hi hm, if_neg (by omega), Int.zero_mul]]; rfl
    · rw [if_neg h, sg_only hi fun m hm hne => by rw [eF m hm, T.f i m hi hm, if_neg (by omega), Int.zero_mul], eF i hi, eU i hi, T.f i i hi hi, if_pos ⟨rfl, h⟩]
  have b : ab (if i = kx then 0 else uV p i k) ≤ 1073741824 := by
    split
    · decide
    · exact C.uv1 hk
  have dv := dotV_sg (A := rowF 24 (fS F 24 0) i) (B := colF (condF p) k) (n := 24) (fun m hm => by
    rw [eF m hm, eU m hm, T.f i m hi hm]
    refine ⟨?_, sb_ab (C.uv1 (a := m) hk) (by decide)⟩
    unfold SB; split <;> omega) (by rw [hs, cl_rshmul]; exact sb_ab b (by decide))
  rw [hs, cl_rshmul] at dv
  unfold stepW rowsW rwB
  rw [e1, e2, if_pos hk]
  exact dv
theorem TkH.e_left {k : Nat} (hk : k < 24) : stepE p q k = p (276 + k) := by
  unfold stepE eS
  rw [if_pos hk, T.cl.cond.1 _ (by omega)]
theorem TkH.e_right {k : Nat} (hk : k < 24) : stepE p q (24 + k) = q k := by
  have := T.n k hk
  unfold stepE eS
  rw [if_neg (by omega), if_pos (by omega), show 24 + k - 24 = k by omega]
  exact (qV_id (by omega) (by omega)).1
theorem TkH.wt : WtB (stepE p q) := fun k hk => by
  by_cases h : k < 24
  · rw [T.e_left h]; have := T.d k h; omega
  · obtain ⟨m, rfl⟩ : ∃ m, k = 24 + m := ⟨k - 24, by omega⟩
    rw [T.e_right (by omega)]; have := T.n m (by omega); omega
/-- The rows' products: exactly the covariance, and the noise. -/
theorem TkH.gr_eq {i l : Nat} (hi : i < 24) (hl : l < 24) (xi : i ≠ kx) (xl : l ≠ kx) : gr (rowF 48 (stepW p F) i) (rowF 48 (stepW p F) l) (stepE p q) = PP p i l + (if i = l then 1152921504606846976 * q i else 0) := by
  unfold gr
  have e48 : sg (fun k => rowF 48 (stepW p F) i k * rowF 48 (stepW p F) l k * stepE p q k) 48 = sg (fun k => rowF 48 (stepW p F) i k * rowF 48 (stepW p F) l k * stepE p q k) 24 + sg (fun m => rowF 48 (stepW p F) i (24 + m) * rowF 48 (stepW p F) l (24 + m) * stepE p q (24 + m)) 24 := sg_app (fun k => rowF 48 (stepW p F) i k * rowF 48 (stepW p F) l k * stepE p q k) 24 24
  have A1 : sg (fun k => rowF 48 (stepW p F) i k * rowF 48 (stepW p F) l k * stepE p q k) 24 = PP p i l := sg_congr fun k hk => by
    show stepW p F (i * 48 + k) * stepW p F (l * 48 + k) * _ = _
    rw [(T.w_left hi hk).1, (T.w_left hl hk).1, T.e_left hk, if_neg xi, if_neg xl]
  have A2 : sg (fun m => rowF 48 (stepW p F) i (24 + m) * rowF 48 (stepW p F) l (24 + m) * stepE p q (24 + m)) 24 = if i = l then 1152921504606846976 * q i else 0 := by
    by_cases h : i = l
    · rw [if_pos h, sg_only hi fun m hm hne => by show stepW p F (i * 48 + (24 + m)) * _ * _ = _; rw [cl_right hi hm, if_neg hne, Int.zero_mul, Int.zero_mul]]
      show stepW p F (i * 48 + (24 + i)) * stepW p F (l * 48 + (24 + i)) * _ = _
      rw [cl_right hi hi, cl_right hl hi, if_pos rfl, if_pos h, T.e_right hi]
      rfl
    · rw [if_neg h]
      refine sg_zero fun m hm => ?_
      show stepW p F (i * 48 + (24 + m)) * stepW p F (l * 48 + (24 + m)) * _ = _
      rw [cl_right hi hm, cl_right hl hm]
      by_cases h2 : m = i
      · rw [if_neg (show ¬ m = l by omega), Int.mul_zero, Int.zero_mul]
      · rw [if_neg h2, Int.zero_mul, Int.zero_mul]
  rw [e48, A1, A2]
theorem TkH.pp_own {i : Nat} (hi : i < 24) : PP p i i ≤ 25000000000000000000000000000000 := by
  have C := T.cl
  have h := sg_le (f := fun k => uV p i k * uV p i k * p (276 + k)) (g := fun k => 635064000000000000000000000000 + (if k = i then 9600000000000000000000000000000 else 0)) (n := 24) fun k hk => by
    have b := C.uv (a := i) hk
    have d := T.d k hk
    have sq : uV p i k * uV p i k = ab (uV p i k) * ab (uV p i k) := by
      rcases (show ab (uV p i k) = uV p i k ∨ ab (uV p i k) = -(uV p i k) by unfold ab; omega) with h | h <;> rw [h]
      exact (Int.neg_mul_neg _ _).symm
    rw [sq]
    by_cases h2 : i = k
    · rw [if_pos h2] at b
      rw [if_pos h2.symm]
      have m1 := Int.mul_le_mul b b (ab_bd _).1 (by decide)
      have m2 := Int.mul_le_mul m1 d.2 (by omega) (by decide)
      omega
    · rw [if_neg h2] at b
      rw [if_neg (Ne.symm h2)]
      have m1 := Int.mul_le_mul b b (ab_bd _).1 (by decide)
      have m2 := Int.mul_le_mul m1 d.2 (by omega) (by decide)
      omega
  rw [sg_add, sg_const, sg_only hi fun k _ h => if_neg h, if_pos rfl] at h
  unfold PP
  omega
theorem TkH.tri : TriH (stepW p F) (stepE p q) kx where
  wt := T.wt
  low := fun i m h1 h2 => by
    rw [(T.w_left h2 (by omega)).1]
    split
    · rfl
    · exact uV_low h1
  one := fun i hi hx => by rw [(T.w_left hi hi).1, if_neg hx, uV_self]
  up := fun i m h1 h2 hx => by
    have := T.cl.uv (a := i) h2
    rw [if_neg (by omega)] at this
    rw [(T.w_left (by omega) h2).1, if_neg hx]; omega
  zk := fun h m hm => by rw [(T.w_left h hm).1, if_pos rfl]
  right := fun i m hi hm => cl_right hi hm
  big := fun k hk => by rw [T.e_left hk]; exact (T.d k hk).1
  ek := fun h => by rw [T.e_right h]; exact T.qk h
  g := fun i hi => by
    by_cases hx : i = kx
    · have e : gr (rowF 48 (stepW p F) i) (rowF 48 (stepW p F) i) (stepE p q) = 1152921504606846976 * q i := by
        unfold gr
        rw [sg_only (a := 24 + i) (by omega) fun k hk hne => ?_]
        · show stepW p F (i * 48 + (24 + i)) * stepW p F (i * 48 + (24 + i)) * _ = _
          rw [cl_right hi hi, if_pos rfl, T.e_right hi]; rfl
        · show stepW p F (i * 48 + k) * _ * _ = 0
          by_cases h : k < 24
          · rw [(T.w_left hi h).1, if_pos hx, Int.zero_mul, Int.zero_mul]
          · obtain ⟨m, rfl⟩ : ∃ m, k = 24 + m := ⟨k - 24, by omega⟩
            rw [cl_right hi (by omega), if_neg (by omega), Int.zero_mul, Int.zero_mul]
      rw [e]
      have := T.n i hi
      omega
    · rw [T.gr_eq hi hi hx hx, if_pos rfl]
      have a := T.pp_own hi
      have b := (T.n i hi).2.2 hx
      omega
theorem TkH.flag : stepH p F q = false := by
  unfold stepH
  have h1 : loop1H q F 24 = false := by
    unfold loop1H row1H
    refine cl_orB fun i hi => ?_
    have := T.n i hi
    rw [(qV_id (a := q i) (by omega) (by omega)).2, cl_orB fun k hk => (T.fs (by omega)).2]; rfl
  have h2 : rowsH (condF p) (fS F 24 0) = false := by
    unfold rowsH rwH
    exact cl_orB fun k hk => cl_orB fun i hi => (T.w_left hi hk).2
  rw [T.cl.cond.2, h1, h2, (T.tri.run.all 24 (Nat.le_refl _)).2.flag]; rfl
/-- What At tells behind the step: what it told, and the noise, within a little. -/
theorem TkH.close {i l : Nat} (hi : i < 24) (hl : l < 24) (xi : i ≠ kx) (xl : l ≠ kx) : atH (stepF p F q) i l = false ∧ atH p i l = false ∧ ab (atV p i l) ≤ 212000000000000 ∧
    ab (atV (stepF p F q) i l - atV p i l - (if i = l then q i else 0)) ≤ 4294967296 := by
  have O : RunO (stepW p F) (stepE p q) (stepF p F q) := run_o _ _
  have a : ab (1152921504606846976 * atV (stepF p F q) i l - gr (rowF 48 (stepW p F) i) (rowF 48 (stepW p F) l) (stepE p q)) ≤ 25 * 116056878683004400771792896 ∧ atH (stepF p F q) i l = false := by
    by_cases h : i ≤ l
    · have r := run_at T.tri.run O h hl (T.tri.nrm hl xl)
      exact ⟨r.1, r.2.1⟩
    · have r := run_at T.tri.run O (show l ≤ i by omega) hi (T.tri.nrm hi xi)
      rw [gr_comm]
      exact ⟨r.2.2.1, r.2.2.2⟩
  have b := T.cl.at_p hi hl
  rw [T.gr_eq hi hl xi xl] at a
  refine ⟨a.2, b.2.1, b.2.2, ?_⟩
  obtain ⟨A, hA⟩ : ∃ A, atV (stepF p F q) i l = A := ⟨_, rfl⟩
  obtain ⟨B, hB⟩ : ∃ A, atV p i l = A := ⟨_, rfl⟩
  obtain ⟨G, hG⟩ : ∃ A, PP p i l = A := ⟨_, rfl⟩
  rw [hA, hG] at a
  rw [hB, hG] at b
  rw [hA, hB]
  have c2 := ab_bd (1152921504606846976 * B - G)
  by_cases h : i = l
  · rw [if_pos h] at a ⊢
    have c1 := ab_bd (1152921504606846976 * A - (G + 1152921504606846976 * q i))
    exact le_ab (by omega)
  · rw [if_neg h] at a ⊢
    have c1 := ab_bd (1152921504606846976 * A - (G + 0))
    exact le_ab (by omega)
end
end Go.Proofs.Ytcombidoaghlbaa
