/- Rest with known biases: the step changes nothing (plain law). No program. -/
import Derived.Test.YtnnjcdbliaecgaaUpr3
namespace Go.Proofs.Ytnnjcdbliaecgaa
def biS (G A : Nat → Int) : Nat → Int := fun i => if i < 4 then oneS i else if i < 10 then 0 else if i < 13 then G (i - 10) else if i < 16 then A (i - 13) else 0
def biI (G A : Nat → Int) (us : Int) : Nat → Int := fun i => if i = 1 then us else if i < 2 then 0 else if i < 5 then mulV (G (i - 2)) (secV us) 30 else if i < 8 then (if i = 7 then -(mulV 10529810258 (secV us) 30) else 0) + mulV (A (i - 5)) (secV us) 30 else 0
theorem partF_at (S : Nat → Int) (a k : Nat) (h : a + k < 24) : partF S a k = S (a + k) := by
  unfold partF
  rw [if_pos (by omega), show ((a : Int) + (k : Int)).toNat = a + k by omega]
theorem good_of {S : Nat → Int} (hS : ∀ i, i < 4 → S i = oneS i) (hb : ∀ i, 4 ≤ i → i < 24 → -(boxF i) ≤ S i ∧ S i ≤ boxF i) : goodB S = true := by
  unfold goodB
  rw [Bool.and_eq_true]
  refine ⟨boxQ_iff.2 fun i hi => ?_, (unitB_iff S).2 (unitQ_congr (fun i hi => (hS i hi).symm) ((unitB_iff oneS).1 (by decide +kernel)))⟩
  by_cases h : i < 4
  · rw [hS i h, boxF_lo h]
    unfold oneS
    split <;> omega
  · exact hb i (by omega) hi
theorem box_at (i : Nat) : (i < 10 → 4 ≤ i → 549755813888 ≤ boxF i) ∧ (7 ≤ i → i < 10 → boxF i = 9007199254740992) ∧ (10 ≤ i → i < 13 → boxF i = 134217728) ∧ (13 ≤ i → i < 16 → boxF i = 1073741824) ∧ 134217728 ≤ boxF i := by
  unfold boxF
  repeat' split
  all_goals omega
theorem va_zero {L : Nat → Nat → Int} {n k : Nat} (hn : n ≤ 3) (h : ∀ j, j < n → SB (L j k)) (e : sumS (fun j => L j k) n = 0) : vaV L n k = 0 ∧ vaH L n k = false := by
  have b : sumB (fun j => L j k) n = false := by
    have : ∀ m, m ≤ n → sumB (fun j => L j k) m = false := by
      intro m
      induction m with
      | zero => intro _; rfl
      | succ m ih => intro hm; simp only [sumB]; rw [ih (by omega), satH_sb (h m (by omega))]; rfl
    exact this n (Nat.le_refl _)
  unfold vaV vaH
  rw [e, b]
  decide
set_option maxHeartbeats 2000000 in
theorem bias_step {G A : Nat → Int} {us : Int} (h1 : 1000 ≤ us) (h2 : us ≤ 100000) (hG : ∀ k, k < 3 → -134217727 ≤ G k ∧ G k ≤ 134217727) (hA : ∀ k, k < 3 → -1073741823 ≤ A k ∧ A k ≤ 1073741823) :
    stepN (biS G A) (biI G A us) = biS G A ∧ stepH2 (biS G A) (biI G A us) = false := by
  have sb := sec_bd h1 h2
  obtain ⟨dt, hdt⟩ : ∃ x, secV us = x := ⟨_, rfl⟩
  rw [hdt] at sb
  have ug := up_g (dt := dt) (by omega) (by omega)
  obtain ⟨g, hg⟩ : ∃ x, mulV 10529810258 dt 30 = x := ⟨_, rfl⟩
  rw [hg] at ug
  have mg : ∀ k, k < 3 → mulH (G k) dt 30 = false ∧ SB (mulV (G k) dt 30) := fun k hk => by
    have m := ml_small (a := G k) (b := dt) (X := 134217727) (Y := 107374183) (hG k hk) (by omega) (by decide) (by decide) (by decide)
    exact ⟨m.2.1, by unfold SB; omega⟩
  have ma : ∀ k, k < 3 → mulH (A k) dt 30 = false ∧ -107374184 ≤ mulV (A k) dt 30 ∧ mulV (A k) dt 30 ≤ 107374184 := fun k hk => by
    have m := ml_small (a := A k) (b := dt) (X := 1073741823) (Y := 107374183) (hA k hk) (by omega) (by decide) (by decide) (by decide)
    exact ⟨m.2.1, by omega⟩
  have hS : ∀ i, i < 4 → biS G A i = oneS i := fun i hi => by unfold biS; rw [if_pos hi]
  have s4 : ∀ i, 4 ≤ i → i < 10 → biS G A i = 0 := fun i hi h => by unfold biS; rw [if_neg (by omega), if_pos h]
  have s10 : ∀ k, k < 3 → biS G A (10 + k) = G k := fun k hk => by unfold biS; rw [if_neg (by omega), if_neg (by omega), if_pos (by omega), show 10 + k - 10 = k by omega]
  have s13 : ∀ k, k < 3 → biS G A (13 + k) = A k := fun k hk => by unfold biS; rw [if_neg (by omega), if_neg (by omega), if_neg (by omega), if_pos (by omega), show 13 + k - 13 = k by omega]
  have s16 : ∀ i, 16 ≤ i → biS G A i = 0 := fun i hi => by unfold biS; rw [if_neg (by omega), if_neg (by omega), if_neg (by omega), if_neg (by omega)]
  have i1 : biI G A us 1 = us := by unfold biI; rw [if_pos rfl]
  have i2 : ∀ k, k < 3 → biI G A us (2 + k) = mulV (G k) dt 30 := fun k hk => by
    unfold biI; rw [if_neg (by omega), if_neg (by omega), if_pos (by omega), show 2 + k - 2 = k by omega, hdt]
  have i5 : ∀ k, k < 3 → biI G A us (5 + k) = (if k = 2 then -g else 0) + mulV (A k) dt 30 := fun k hk => by
    unfold biI; rw [if_neg (by omega), if_neg (by omega), if_neg (by omega), if_pos (by omega), show 5 + k - 5 = k by omega, hdt, hg]
    by_cases h : k = 2
    · rw [if_pos h, if_pos (by omega)]
    · rw [if_neg h, if_neg (by omega)]
  have p10 : ∀ k, k < 3 → partF (biS G A) 10 k = G k := fun k hk => by
    have := partF_at (biS G A) 10 k (by omega); rw [show ((10 : Nat) : Int) = 10 from rfl] at this; rw [this, s10 k hk]
  have p13 : ∀ k, k < 3 → partF (biS G A) 13 k = A k := fun k hk => by
    have := partF_at (biS G A) 13 k (by omega); rw [show ((13 : Nat) : Int) = 13 from rfl] at this; rw [this, s13 k hk]
  have p4 : ∀ k, k < 3 → partF (biS G A) 4 k = 0 := fun k hk => by
    have := partF_at (biS G A) 4 k (by omega); rw [show ((4 : Nat) : Int) = 4 from rfl] at this; rw [this, s4 _ (by omega) (by omega)]
  have p7 : ∀ k, k < 3 → partF (biS G A) 7 k = 0 := fun k hk => by
    have := partF_at (biS G A) 7 k (by omega); rw [show ((7 : Nat) : Int) = 7 from rfl] at this; rw [this, s4 _ (by omega) (by omega)]
  have hgood : goodB (biS G A) = true := good_of hS fun i h4 h24 => by
    have bx := box_at i
    by_cases c1 : i < 10
    · rw [s4 i h4 c1]; omega
    · by_cases c2 : i < 13
      · obtain ⟨k, rfl⟩ : ∃ k, i = 10 + k := ⟨i - 10, by omega⟩
        rw [s10 k (by omega)]; have := hG k (by omega); omega
      · by_cases c3 : i < 16
        · obtain ⟨k, rfl⟩ : ∃ k, i = 13 + k := ⟨i - 13, by omega⟩
          rw [s13 k (by omega)]; have := hA k (by omega); omega
        · rw [s16 i (by omega)]; omega
  obtain ⟨D, hD⟩ : ∃ D : Nat → Int, (fun k => if k = 2 then -g else 0) = D := ⟨_, rfl⟩
  have D0 : ∀ k, k < 3 → D k = if k = 2 then -g else 0 := fun k _ => by rw [← hD]
  have bD : ∀ k, k < 3 → SB (D k) := fun k hk => by rw [D0 k hk]; unfold SB; split <;> omega
  have eA : ∀ k, k < 3 → subV (biI G A us (2 + k)) (mulV (partF (biS G A) 10 k) dt 30) = 0 ∧ subH (biI G A us (2 + k)) (mulV (partF (biS G A) 10 k) dt 30) = false := fun k hk => by
    rw [i2 k hk, p10 k hk]; exact sub_same (mg k hk).2
  have eD : ∀ k, k < 3 → subV (biI G A us (5 + k)) (mulV (partF (biS G A) 13 k) dt 30) = D k ∧ subH (biI G A us (5 + k)) (mulV (partF (biS G A) 13 k) dt 30) = false := fun k hk => by
    have mm := (ma k hk).2
    have dd : -1052981035 ≤ D k ∧ D k ≤ 1 := by rw [D0 k hk]; split <;> omega
    rw [i5 k hk, p13 k hk, ← D0 k hk]
    generalize mulV (A k) dt 30 = m at *
    generalize D k = d at *
    have q1 : SB (d + m) := by unfold SB; omega
    have q2 : SB m := by unfold SB; omega
    have q3 : SB d := by unfold SB; omega
    unfold subV subH
    rw [satV_sb q1, satV_sb q2, satH_sb q1, satH_sb q2, show d + m - m = d by omega, satV_sb q3, satH_sb q3]
    exact ⟨rfl, rfl⟩
  have st := up_step (S := biS G A) (I := biI G A us) (D := D) (dt := dt) hS hgood (fun i hi => s16 i (by omega)) (by rw [i1, hdt]) (fun k hk => (eA k hk).1) (fun k hk => (eD k hk).1) (fun k hk => bD k hk)
  have vN : ∀ k, k < 3 → upN (biS G A) D dt k = 0 ∧ vaH (v3L (partF (biS G A) 4) D (vc3 0 0 (mulV 10529810258 dt 30))) 3 k = false := fun k hk => by
    unfold upN
    rw [hg]
    refine va_zero (by decide) (fun j hj => ?_) ?_
    · obtain rfl | rfl | rfl : j = 0 ∨ j = 1 ∨ j = 2 := by omega
      · show SB (partF (biS G A) 4 k); rw [p4 k hk]; unfold SB; omega
      · exact bD k hk
      · show SB (vc3 0 0 g k); unfold vc3 SB; split <;> (try split) <;> omega
    · simp only [sumS, v3L]
      rw [p4 k hk, satV_sb (bD k hk), D0 k hk]
      have g3 : SB g := by unfold SB; omega
      obtain rfl | rfl | rfl : k = 0 ∨ k = 1 ∨ k = 2 := by omega
      · rw [if_neg (by decide), show vc3 0 0 g 0 = 0 from rfl]; decide
      · rw [if_neg (by decide), show vc3 0 0 g 1 = 0 from rfl]; decide
      · rw [if_pos rfl, show vc3 0 0 g 2 = g from rfl, satV_sb g3, show satV 0 = 0 by decide]; omega
  have vM : ∀ k, k < 3 → upM (biS G A) D dt k = 0 ∧ vaH (v2L (partF (biS G A) 4) (upN (biS G A) D dt)) 2 k = false := fun k hk => by
    unfold upM
    refine va_zero (by decide) (fun j hj => ?_) ?_
    · obtain rfl | rfl : j = 0 ∨ j = 1 := by omega
      · show SB (partF (biS G A) 4 k); rw [p4 k hk]; unfold SB; omega
      · show SB (upN (biS G A) D dt k); rw [(vN k hk).1]; unfold SB; omega
    · simp only [sumS, v2L]
      rw [p4 k hk, (vN k hk).1]; decide
  have hh : SB (mulV dt 536870912 30) := by unfold SB; omega
  have vL : ∀ k, k < 3 → upL (biS G A) D dt k = 0 ∧ mulH (upM (biS G A) D dt k) (mulV dt 536870912 30) 30 = false := fun k hk => by
    unfold upL; rw [(vM k hk).1]; exact ⟨ml_zero _, mlH_zero hh⟩
  have vX : ∀ k, k < 3 → upX (biS G A) D dt k = 0 ∧ vaH (v2L (partF (biS G A) 7) (upL (biS G A) D dt)) 2 k = false := fun k hk => by
    unfold upX
    refine va_zero (by decide) (fun j hj => ?_) ?_
    · obtain rfl | rfl : j = 0 ∨ j = 1 := by omega
      · show SB (partF (biS G A) 7 k); rw [p7 k hk]; unfold SB; omega
      · show SB (upL (biS G A) D dt k); rw [(vL k hk).1]; unfold SB; omega
    · simp only [sumS, v2L]
      rw [p7 k hk, (vL k hk).1]; decide
  have eS : upS (biS G A) D dt = biS G A := by
    funext i
    unfold upS
    by_cases c1 : i < 4
    · rw [if_pos c1, hS i c1]
    · rw [if_neg c1]
      by_cases c2 : i < 7
      · rw [if_pos c2, (vN (i - 4) (by omega)).1, s4 i (by omega) (by omega)]
      · rw [if_neg c2]
        by_cases c3 : i < 10
        · rw [if_pos c3, (vX (i - 7) (by omega)).1, s4 i (by omega) (by omega)]
        · rw [if_neg c3]
  have kp := keep_self hgood (fun i hi => s16 i (by omega))
  rw [st.1, st.2, eS]
  refine ⟨kp.1, ?_⟩
  unfold spAH upH
  rw [show ((10 : Nat) : Int) = 10 from rfl, show ((13 : Nat) : Int) = 13 from rfl, i1, sb.2.2, eS, kp.2, ug.1, ug.2.2.2.1,
    orB_noB (p := fun i => mulH (partF (biS G A) 10 i) dt 30) fun k hk => by rw [p10 k hk]; exact (mg k hk).1,
    orB_noB (p := fun i => mulH (partF (biS G A) 13 i) dt 30) fun k hk => by rw [p13 k hk]; exact (ma k hk).1,
    orB_noB (p := fun i => subH (biI G A us (2 + i)) (mulV (partF (biS G A) 10 i) dt 30)) fun k hk => (eA k hk).2,
    orB_noB (p := fun i => subH (biI G A us (5 + i)) (mulV (partF (biS G A) 13 i) dt 30)) fun k hk => (eD k hk).2,
    orB_noB (p := vaH (v3L (partF (biS G A) 4) D (vc3 0 0 (mulV 10529810258 dt 30))) 3) fun k hk => (vN k hk).2,
    orB_noB (p := vaH (v2L (partF (biS G A) 4) (upN (biS G A) D dt)) 2) fun k hk => (vM k hk).2,
    orB_noB (p := fun i => mulH (upM (biS G A) D dt i) (mulV dt 536870912 30) 30) fun k hk => (vL k hk).2,
    orB_noB (p := vaH (v2L (partF (biS G A) 7) (upL (biS G A) D dt)) 2) fun k hk => (vX k hk).2]
  rfl
end Go.Proofs.Ytnnjcdbliaecgaa
