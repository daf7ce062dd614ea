/- A level body's step at rest (plain law, 3). No program. -/
import Derived.Test.YtnnjcdbliaecgaaRes2
import Derived.Test.YtnnjcdbliaecgaaUpr5
namespace Go.Proofs.Ytnnjcdbliaecgaa
theorem rs_good {S : Nat → Int} (u : UnitQ S) (hb : ∀ i, 4 ≤ i → i < 24 → -(boxF i) ≤ S i ∧ S i ≤ boxF i) : goodB S = true := by
  unfold goodB
  rw [Bool.and_eq_true]
  refine ⟨boxQ_iff.2 fun i hi => ?_, (unitB_iff S).2 u⟩
  by_cases h : i < 4
  · rw [boxF_lo h]; exact u.1 i h
  · exact hb i (by omega) hi
theorem rs_va {L : Nat → Nat → Int} {n k : Nat} {y : Int} (hn : n ≤ 3) (hb : ∀ j, j < n → SB (L j k)) (e : sumS (fun j => L j k) n = y) (hy : SB y) : vaV L n k = y ∧ vaH L n k = false := by
  have b : sumB (fun j => L j k) n = false := by
    have : ∀ m, m ≤ n → sumB (fun j => L j k) m = false := by
      intro m
      induction m with
      | zero => intro _; rfl
      | succ m ih => intro hm; simp only [sumB]; rw [ih (by omega), satH_sb (hb m (by omega))]; rfl
    exact this n (Nat.le_refl _)
  unfold vaV vaH
  rw [e, b, satV_sb hy, satH_sb hy]; exact ⟨rfl, rfl⟩
theorem q4_bd {a b c d B : Int} (ha : -B ≤ a ∧ a ≤ B) (hb : -B ≤ b ∧ b ≤ B) (hc : -B ≤ c ∧ c ≤ B) (hd : -B ≤ d ∧ d ≤ B) : ∀ i, i < 4 → -B ≤ q4 a b c d i ∧ q4 a b c d i ≤ B := fun i _ => by
  unfold q4
  split
  · exact ha
  · split
    · exact hb
    · split
      · exact hc
      · exact hd
theorem rs_dot {A B : Nat → Int} (hA : ∀ i, i < 4 → -1073741840 ≤ A i ∧ A i ≤ 1073741840) (hB : ∀ i, i < 4 → -1073741840 ≤ B i ∧ B i ≤ 1073741840) : dotH 30 A B 4 = false := by
  have sA : ∀ i, i < 4 → SB (A i) := fun i hi => by have := hA i hi; unfold SB; omega
  have sB : ∀ i, i < 4 → SB (B i) := fun i hi => by have := hB i hi; unfold SB; omega
  have m : ∀ i, i < 4 → -(1073741840 * 1073741840) ≤ A i * B i ∧ A i * B i ≤ 1073741840 * 1073741840 := fun i hi => mul_bd (hA i hi) (hB i hi)
  have m0 := m 0 (by decide)
  have m1 := m 1 (by decide)
  have m2 := m 2 (by decide)
  have m3 := m 3 (by decide)
  unfold dotH
  rw [if_neg (by decide)]
  simp only [dotB, dotS]
  rw [satH_sb (sA 0 (by decide)), satH_sb (sA 1 (by decide)), satH_sb (sA 2 (by decide)), satH_sb (sA 3 (by decide)), satH_sb (sB 0 (by decide)), satH_sb (sB 1 (by decide)), satH_sb (sB 2 (by decide)), satH_sb (sB 3 (by decide)),
    satV_sb (sA 0 (by decide)), satV_sb (sA 1 (by decide)), satV_sb (sA 2 (by decide)), satV_sb (sA 3 (by decide)), satV_sb (sB 0 (by decide)), satV_sb (sB 1 (by decide)), satV_sb (sB 2 (by decide)), satV_sb (sB 3 (by decide))]
  have r := rsh_err (0 + A 0 * B 0 + A 1 * B 1 + A 2 * B 2 + A 3 * B 3)
  rw [show (30 : Int).toNat = 30 from rfl]
  generalize A 0 * B 0 = x0 at *
  generalize A 1 * B 1 = x1 at *
  generalize A 2 * B 2 = x2 at *
  generalize A 3 * B 3 = x3 at *
  generalize rsh (0 + x0 + x1 + x2 + x3) 30 = z at *
  rw [satH_no (by omega) (by omega)]
  rfl
theorem ro_calm {S : Nat → Int} (u : UnitQ S) : roH S = false := by
  have b : ∀ i, i < 4 → -1073741840 ≤ satA S i ∧ satA S i ≤ 1073741840 := fun i hi => by
    have := u.1 i hi
    unfold satA; rw [satV_id (by omega) (by omega)]; exact this
  obtain ⟨F, hF⟩ : ∃ F, satA S = F := ⟨_, rfl⟩
  unfold roH
  rw [hF] at b ⊢
  have b0 := b 0 (by decide)
  have b1 := b 1 (by decide)
  have b2 := b 2 (by decide)
  have b3 := b 3 (by decide)
  have nb : ∀ {x : Int}, -1073741840 ≤ x ∧ x ≤ 1073741840 → -1073741840 ≤ -x ∧ -x ≤ 1073741840 := fun h => by omega
  rw [orB_noB fun i hi => satH_no (by have := u.1 i hi; omega) (by have := u.1 i hi; omega), orB_noB fun k _ => by
    unfold roNH
    refine rs_dot ?_ ?_
    · unfold roA
      split <;> first | exact b | (refine q4_bd ?_ ?_ ?_ ?_ <;> first | assumption | exact nb b0)
    · unfold roB
      split <;> (refine q4_bd ?_ ?_ ?_ ?_ <;> first | assumption | exact nb b1 | exact nb b2 | exact nb b3)]
  rfl
theorem stS_at (S P : Nat → Int) : (∀ i, i < 4 → stS S P i = stQ S P i) ∧ (∀ k, k < 3 → stS S P (4 + k) = stN S P k) ∧ (∀ k, k < 3 → stS S P (7 + k) = stX S P k) ∧ (∀ i, 10 ≤ i → stS S P i = S i) := by
  unfold stS withF
  refine ⟨fun i hi => ?_, fun k hk => ?_, fun k hk => ?_, fun i hi => ?_⟩
  · rw [if_neg (by omega), if_neg (by omega), if_pos (by omega), show ((i : Int) - 0).toNat = i by omega]
  · rw [if_neg (by omega), if_pos (by omega), show (((4 + k : Nat) : Int) - 4).toNat = k by omega]
  · rw [if_pos (by omega), show (((7 + k : Nat) : Int) - 7).toNat = k by omega]
  · rw [if_neg (by omega), if_neg (by omega), if_neg (by omega)]
set_option maxHeartbeats 4000000 in
/-- The attitude stays level, the velocity within a little, the place goes on. -/
theorem lev_step {S : Nat → Int} {us : Int} (h1 : 1000 ≤ us) (h2 : us ≤ 100000) (q1 : S 1 = 0) (q2 : S 2 = 0) (hg : goodB S = true) (hz : ∀ i, 10 ≤ i → S i = 0)
    (hv : ∀ k, k < 3 → -400000000000 ≤ S (4 + k) ∧ S (4 + k) ≤ 400000000000) (hx : ∀ k, k < 3 → -1000000000000000 ≤ S (7 + k) ∧ S (7 + k) ≤ 1000000000000000) :
    ∃ T : Nat → Int, stepN S (stlF us) = T ∧ stepH2 S (stlF us) = false ∧ T 1 = 0 ∧ T 2 = 0 ∧ goodB T = true ∧ (∀ i, 10 ≤ i → T i = 0) ∧ T 4 = S 4 ∧ T 5 = S 5 ∧ (-8 ≤ T 6 - S 6 ∧ T 6 - S 6 ≤ 8) ∧
      ∀ k, k < 3 → T (7 + k) = S (7 + k) + mulV (S (4 + k) + T (4 + k)) (mulV (secV us) 536870912 30) 30 := by
  have sb := sec_bd h1 h2
  obtain ⟨dt, hdt⟩ : ∃ x, secV us = x := ⟨_, rfl⟩
  rw [hdt] at sb ⊢
  have ug := up_g (dt := dt) (by omega) (by omega)
  obtain ⟨g, hg'⟩ : ∃ x, mulV 10529810258 dt 30 = x := ⟨_, rfl⟩
  obtain ⟨hf, hhf⟩ : ∃ x, mulV dt 536870912 30 = x := ⟨_, rfl⟩
  rw [hg', hhf] at ug
  rw [hhf]
  have u := (unitB_iff S).1 (good_parts hg).2
  have kp := keep_self hg (fun i hi => hz i (by omega))
  obtain ⟨f0, f4, f7, f11⟩ := spF_at S (stlF us)
  rw [show stlF us 1 = us from rfl, hdt] at f0 f4 f7
  have hdb : SB dt := by unfold SB; omega
  have z0 : SB 0 := by unfold SB; omega
  have hh : SB hf := by unfold SB; omega
  have gb : SB g := by unfold SB; omega
  have gb' : SB (-g) := by unfold SB; omega
  have pp : ∀ (a k : Nat), a + k < 24 → partF S (a : Int) k = S (a + k) := fun a k h => partF_at _ a k h
  have p10 : ∀ k, k < 3 → partF S 10 k = 0 := fun k hk => by
    have := pp 10 k (by omega); rw [show ((10 : Nat) : Int) = 10 from rfl] at this; rw [this, hz _ (by omega)]
  have p13 : ∀ k, k < 3 → partF S 13 k = 0 := fun k hk => by
    have := pp 13 k (by omega); rw [show ((13 : Nat) : Int) = 13 from rfl] at this; rw [this, hz _ (by omega)]
  have p4 : ∀ k, k < 3 → partF S 4 k = S (4 + k) := fun k hk => by
    have := pp 4 k (by omega); rw [show ((4 : Nat) : Int) = 4 from rfl] at this; exact this
  have p7 : ∀ k, k < 3 → partF S 7 k = S (7 + k) := fun k hk => by
    have := pp 7 k (by omega); rw [show ((7 : Nat) : Int) = 7 from rfl] at this; exact this
  have i2 : ∀ k, k < 3 → stlF us (2 + k) = 0 := fun k hk => by unfold stlF; rw [if_neg (by omega), if_neg (by omega)]
  have i5 : ∀ k, k < 3 → stlF us (5 + k) = if k = 2 then -g else 0 := fun k hk => by
    unfold stlF; rw [if_neg (by omega), hdt, hg']
    by_cases h : k = 2
    · rw [if_pos h, if_pos (by omega)]
    · rw [if_neg h, if_neg (by omega)]
  have i5b : ∀ k, k < 3 → SB (stlF us (5 + k)) := fun k hk => by rw [i5 k hk]; split <;> assumption
  have z00 : subV 0 0 = 0 ∧ subH 0 0 = false := sub_same z0
  have sub0 : ∀ a, SB a → subV a 0 = a ∧ subH a 0 = false := fun a ha => by
    unfold subV subH
    rw [satV_sb ha, satH_sb ha, show satV 0 = 0 by decide, show satH 0 = false by decide, Int.sub_zero, satV_sb ha, satH_sb ha]; exact ⟨rfl, rfl⟩
  have eA : ∀ k, k < 3 → subV (stlF us (2 + k)) (mulV (partF S 10 k) dt 30) = 0 ∧ subH (stlF us (2 + k)) (mulV (partF S 10 k) dt 30) = false := fun k hk => by
    rw [i2 k hk, p10 k hk, ml_zero]; exact z00
  have eD : ∀ k, k < 3 → subV (stlF us (5 + k)) (mulV (partF S 13 k) dt 30) = stlF us (5 + k) ∧ subH (stlF us (5 + k)) (mulV (partF S 13 k) dt 30) = false := fun k hk => by
    rw [p13 k hk, ml_zero]; exact sub0 _ (i5b k hk)
  have ex := ur_exp (v := spA S (stlF us) 10 2 dt) (fun k hk => (eA k hk).1)
  have tu : ∀ i, i < 4 → (fun i => spF S (stlF us) (7 + i)) i = oneQ i := fun i hi => by
    show spF S (stlF us) (7 + i) = oneQ i
    rw [f7 i hi, ex.1]
  have ub : ∀ i, i < 4 → SB (S i) := fun i hi => by have := u.1 i hi; unfold SB; omega
  have qm := rs_qm ub tu
  have un := ur_uni (A := qmV S (fun i => spF S (stlF us) (7 + i))) (B := S) fun i hi => qm.1 i hi
  have uc : uniH S = false := unit_calm _ fun i hi => by have := u.1 i hi; omega
  have ug2 := unit_good S
  have v1 := rs_uni0 (A := S) q1 (by decide)
  have v2 := rs_uni0 (A := S) q2 (by decide)
  have ro := rs_ro q1 q2 u
  have rc := ro_calm u
  have rS : ∀ k, SB (roV S k) := fun k => by unfold roV roN dotV; rw [if_neg (by decide)]; exact satV_bd _
  have MM : ∀ k, k < 9 → SB ((fun i => spF S (stlF us) (11 + i)) k) := fun k hk => by
    show SB (spF S (stlF us) (11 + k)); rw [f11 k hk]; exact rS k
  have dd : ∀ k, k < 3 → spF S (stlF us) (4 + k) = if k = 2 then -g else 0 := fun k hk => by
    rw [f4 k hk]; exact (eD k hk).1.trans (i5 k hk)
  have d0 : (fun i => spF S (stlF us) (4 + i)) 0 = 0 := dd 0 (by decide)
  have d1 : (fun i => spF S (stlF us) (4 + i)) 1 = 0 := dd 1 (by decide)
  have d2 : spF S (stlF us) (4 + 2) = -g := dd 2 (by decide)
  have ap := rs_ap (M := fun i => spF S (stlF us) (11 + i)) (V := fun i => spF S (stlF us) (4 + i)) d0 d1 (by rw [d2]; exact gb') MM
  rw [d2] at ap
  have r8 : spF S (stlF us) (11 + 8) = roV S 8 := f11 8 (by decide)
  have r5 : spF S (stlF us) (11 + 5) = 0 := (f11 5 (by decide)).trans ro.2.1
  have r2 : spF S (stlF us) (11 + 2) = 0 := (f11 2 (by decide)).trans ro.1
  have zr : satV (rsh (0 * -g) 30) = 0 ∧ satH (rsh (0 * -g) 30) = false := by rw [Int.zero_mul]; decide
  obtain ⟨R, hR⟩ : ∃ R, roV S 8 = R := ⟨_, rfl⟩
  have Rb := ro.2.2
  rw [hR] at Rb r8
  have er := rsh_err (R * -g)
  have eg := mul_bd (x := R - 1073741824) (y := g) (X := 5) (Y := 1052981035) (by omega) (by omega)
  have ei : R * -g = -(1073741824 * g) - (R - 1073741824) * g := by grind
  have ab : -6 ≤ rsh (R * -g) 30 + g ∧ rsh (R * -g) 30 + g ≤ 6 := by
    rw [ei] at er ⊢
    generalize (R - 1073741824) * g = y at *
    generalize rsh (-(1073741824 * g) - y) 30 = z at *
    omega
  have a0 := ap 0 (by decide)
  have a1 := ap 1 (by decide)
  have a2 := ap 2 (by decide)
  rw [show 3 * 0 + 2 = 2 from rfl, r2] at a0
  rw [show 3 * 1 + 2 = 5 from rfl, r5] at a1
  rw [show 3 * 2 + 2 = 8 from rfl, r8] at a2
  obtain ⟨al, hal⟩ : ∃ x, rsh (R * -g) 30 = x := ⟨_, rfl⟩
  rw [hal] at a2 ab
  have alb : SB al := by unfold SB; omega
  rw [satV_sb alb, satH_sb alb] at a2
  rw [zr.1, zr.2] at a0 a1
  obtain ⟨P, hP⟩ : ∃ P, spF S (stlF us) = P := ⟨_, rfl⟩
  rw [hP] at f0 qm un a0 a1 a2
  have eS : ∀ k, k < 3 → stA P k = if k = 2 then al else 0 := fun k hk => by
    obtain rfl | rfl | rfl : k = 0 ∨ k = 1 ∨ k = 2 := by omega
    · exact a0.1
    · exact a1.1
    · exact a2.1
  have aH : apH (fun i => P (11 + i)) (fun i => P (4 + i)) = false := by
    unfold apH
    refine orB_noB fun i hi => ?_
    obtain rfl | rfl | rfl : i = 0 ∨ i = 1 ∨ i = 2 := by omega
    · exact a0.2
    · exact a1.2
    · exact a2.2
  have eG : stG P = vc3 0 0 g := by unfold stG; rw [f0, hg']
  have g3 : ∀ k, k < 3 → vc3 0 0 g k = if k = 2 then g else 0 := fun k hk => by
    obtain rfl | rfl | rfl : k = 0 ∨ k = 1 ∨ k = 2 := by omega
    all_goals rfl
  have vN : ∀ k, k < 3 → stN S P k = S (4 + k) + (if k = 2 then al + g else 0) ∧ vaH (v3L (partF S 4) (stA P) (stG P)) 3 k = false := fun k hk => by
    have hvk := hv k hk
    unfold stN
    refine rs_va (by decide) (fun j hj => ?_) ?_ (by unfold SB; split <;> omega)
    · obtain rfl | rfl | rfl : j = 0 ∨ j = 1 ∨ j = 2 := by omega
      · show SB (partF S 4 k); rw [p4 k hk]; unfold SB; omega
      · show SB (stA P k); rw [eS k hk]; unfold SB; split <;> omega
      · show SB (stG P k); rw [eG, g3 k hk]; unfold SB; split <;> omega
    · simp only [sumS, v3L]
      rw [p4 k hk, eS k hk, eG, g3 k hk]
      by_cases h : k = 2
      · rw [if_pos h, if_pos h, if_pos h, satV_sb alb, satV_sb gb, satV_id (by omega) (by omega)]; omega
      · rw [if_neg h, if_neg h, if_neg h, show satV 0 = 0 by decide, satV_id (by omega) (by omega)]; omega
  have nb : ∀ k, k < 3 → -400000000006 ≤ stN S P k ∧ stN S P k ≤ 400000000006 := fun k hk => by
    have hvk := hv k hk
    rw [(vN k hk).1]; split <;> omega
  have eF : stF P = hf := by unfold stF; rw [f0, hhf]
  have vM : ∀ k, k < 3 → stM S P k = S (4 + k) + stN S P k ∧ vaH (v2L (partF S 4) (stN S P)) 2 k = false := fun k hk => by
    have hvk := hv k hk
    have nk := nb k hk
    unfold stM
    refine rs_va (by decide) (fun j hj => ?_) ?_ (by unfold SB; omega)
    · obtain rfl | rfl : j = 0 ∨ j = 1 := by omega
      · show SB (partF S 4 k); rw [p4 k hk]; unfold SB; omega
      · show SB (stN S P k); unfold SB; omega
    · simp only [sumS, v2L]
      rw [p4 k hk, satV_id (by omega) (by omega), satV_id (a := stN S P k) (by omega) (by omega)]; omega
  have mL : ∀ k, k < 3 → mulH (stM S P k) hf 30 = false ∧ -50000000000 ≤ mulV (stM S P k) hf 30 ∧ mulV (stM S P k) hf 30 ≤ 50000000000 := fun k hk => by
    have hvk := hv k hk
    have nk := nb k hk
    have m := ml_small (a := stM S P k) (b := hf) (X := 800000000006) (Y := 53687093) (by rw [(vM k hk).1]; omega) (by omega) (by decide) (by decide) (by decide)
    exact ⟨m.2.1, by omega⟩
  have vX : ∀ k, k < 3 → stX S P k = S (7 + k) + mulV (stM S P k) hf 30 ∧ vaH (v2L (partF S 7) (stL S P)) 2 k = false := fun k hk => by
    have hxk := hx k hk
    have mk := (mL k hk).2
    have eL : stL S P k = mulV (stM S P k) hf 30 := by unfold stL; rw [eF]
    unfold stX
    refine rs_va (by decide) (fun j hj => ?_) ?_ (by unfold SB; omega)
    · obtain rfl | rfl : j = 0 ∨ j = 1 := by omega
      · show SB (partF S 7 k); rw [p7 k hk]; unfold SB; omega
      · show SB (stL S P k); rw [eL]; unfold SB; omega
    · simp only [sumS, v2L]
      rw [p7 k hk, eL, satV_id (by omega) (by omega), satV_id (a := mulV (stM S P k) hf 30) (by omega) (by omega)]; omega
  obtain ⟨tq, tn, tx, th⟩ := stS_at S P
  have tq' : ∀ i, i < 4 → stS S P i = uniV S i := fun i hi => by rw [tq i hi]; unfold stQ; exact un.1 i hi
  have tu' : UnitQ (stS S P) := unitQ_congr (fun i hi => (tq' i hi).symm) ug2
  have tz : ∀ i, 10 ≤ i → stS S P i = 0 := fun i hi => by rw [th i hi, hz i hi]
  have tg : goodB (stS S P) = true := rs_good tu' fun i h4 h24 => by
    have bx := box_at i
    by_cases c2 : i < 7
    · obtain ⟨k, rfl⟩ : ∃ k, i = 4 + k := ⟨i - 4, by omega⟩
      rw [tn k (by omega)]; have := nb k (by omega); omega
    · by_cases c3 : i < 10
      · obtain ⟨k, rfl⟩ : ∃ k, i = 7 + k := ⟨i - 7, by omega⟩
        rw [tx k (by omega), (vX k (by omega)).1]; have := hx k (by omega); have := (mL k (by omega)).2; omega
      · rw [tz i (by omega)]; omega
  have tk := keep_self tg (fun i hi => tz i (by omega))
  refine ⟨stS S P, ?_, ?_, by rw [tq' 1 (by decide)]; exact v1, by rw [tq' 2 (by decide)]; exact v2, tg, tz, ?_, ?_, ?_, fun k hk => ?_⟩
  · unfold stepN; rw [kp.1, hP]; exact tk.1
  · unfold stepH2
    rw [kp.1, kp.2, hP]
    unfold spH spAH stHH
    rw [show ((10 : Nat) : Int) = 10 from rfl, show ((13 : Nat) : Int) = 13 from rfl, show stlF us 1 = us from rfl, hdt, sb.2.2, ex.2, rc, qm.2, un.2, uc, aH, f0, ug.1, ug.2.2.2.1, eF, tk.2,
      orB_noB (p := fun i => mulH (partF S 10 i) dt 30) fun k hk => by rw [p10 k hk]; exact mlH_zero hdb,
      orB_noB (p := fun i => mulH (partF S 13 i) dt 30) fun k hk => by rw [p13 k hk]; exact mlH_zero hdb,
      orB_noB (p := fun i => subH (stlF us (2 + i)) (mulV (partF S 10 i) dt 30)) fun k hk => (eA k hk).2,
      orB_noB (p := fun i => subH (stlF us (5 + i)) (mulV (partF S 13 i) dt 30)) fun k hk => (eD k hk).2,
      orB_noB (p := vaH (v3L (partF S 4) (stA P) (stG P)) 3) fun k hk => (vN k hk).2,
      orB_noB (p := vaH (v2L (partF S 4) (stN S P)) 2) fun k hk => (vM k hk).2,
      orB_noB (p := fun i => mulH (stM S P i) hf 30) fun k hk => (mL k hk).1,
      orB_noB (p := vaH (v2L (partF S 7) (stL S P)) 2) fun k hk => (vX k hk).2]
    rfl
  · have := (vN 0 (by decide)).1; rw [if_neg (by decide)] at this; have t := tn 0 (by decide); rw [show 4 + 0 = 4 from rfl] at t this; omega
  · have := (vN 1 (by decide)).1; rw [if_neg (by decide)] at this; have t := tn 1 (by decide); rw [show 4 + 1 = 5 from rfl] at t this; omega
  · have := (vN 2 (by decide)).1; rw [if_pos rfl] at this; have t := tn 2 (by decide); rw [show 4 + 2 = 6 from rfl] at t this; omega
  · rw [tx k hk, (vX k hk).1, (vM k hk).1, tn k hk]
end Go.Proofs.Ytnnjcdbliaecgaa
