/- A fall: one step, and so many (plain law). No program. -/
import Derived.Test.YtnnjcdbliaecgaaUpr4
namespace Go.Proofs.Ytnnjcdbliaecgaa
def falS (v x : Int) : Nat → Int := fun i => if i < 4 then oneS i else if i = 6 then v else if i = 9 then x else 0
def falI (us : Int) : Nat → Int := fun i => if i = 1 then us else 0
set_option maxHeartbeats 2000000 in
theorem fall_step {v x us : Int} (h1 : 1000 ≤ us) (h2 : us ≤ 100000) (hv : -100000000000 ≤ v ∧ v ≤ 100000000000) (hx : -1000000000000000 ≤ x ∧ x ≤ 1000000000000000) :
    stepN (falS v x) (falI us) = falS (v + mulV 10529810258 (secV us) 30) (x + mulV (v + (v + mulV 10529810258 (secV us) 30)) (mulV (secV us) 536870912 30) 30) ∧ stepH2 (falS v x) (falI us) = false := by
  have sb := sec_bd h1 h2
  obtain ⟨dt, hdt⟩ : ∃ x, secV us = x := ⟨_, rfl⟩
  rw [hdt] at sb ⊢
  have ug := up_g (dt := dt) (by omega) (by omega)
  obtain ⟨g, hg⟩ : ∃ x, mulV 10529810258 dt 30 = x := ⟨_, rfl⟩
  obtain ⟨hf, hhf⟩ : ∃ x, mulV dt 536870912 30 = x := ⟨_, rfl⟩
  rw [hg, hhf] at ug ⊢
  have mm := ml_small (a := v + (v + g)) (b := hf) (X := 300000000000) (Y := 53687093) (by omega) (by omega) (by decide) (by decide) (by decide)
  obtain ⟨l, hl⟩ : ∃ x, mulV (v + (v + g)) hf 30 = x := ⟨_, rfl⟩
  rw [hl] at mm ⊢
  have hdb : SB dt := by unfold SB; omega
  have z0 : SB 0 := by unfold SB; omega
  have hS : ∀ v x i, i < 4 → falS v x i = oneS i := fun v x i hi => by unfold falS; rw [if_pos hi]
  have s4 : ∀ v x k, k < 3 → falS v x (4 + k) = if k = 2 then v else 0 := fun v x k hk => by
    unfold falS; rw [if_neg (by omega)]
    by_cases h : k = 2
    · rw [if_pos h, if_pos (by omega)]
    · rw [if_neg h, if_neg (by omega), if_neg (by omega)]
  have s7 : ∀ v x k, k < 3 → falS v x (7 + k) = if k = 2 then x else 0 := fun v x k hk => by
    unfold falS; rw [if_neg (by omega), if_neg (by omega)]
    by_cases h : k = 2
    · rw [if_pos h, if_pos (by omega)]
    · rw [if_neg h, if_neg (by omega)]
  have s10 : ∀ v x i, 10 ≤ i → falS v x i = 0 := fun v x i hi => by unfold falS; rw [if_neg (by omega), if_neg (by omega), if_neg (by omega)]
  have i1 : falI us 1 = us := rfl
  have i2 : ∀ i, 2 ≤ i → falI us i = 0 := fun i hi => by unfold falI; rw [if_neg (by omega)]
  have hgood : ∀ v x, -549755813888 ≤ v → v ≤ 549755813888 → -9007199254740992 ≤ x → x ≤ 9007199254740992 → goodB (falS v x) = true := fun v x a b c d => good_of (hS v x) fun i h4 h24 => by
    have bx := box_at i
    unfold falS
    rw [if_neg (by omega)]
    by_cases c1 : i = 6
    · rw [if_pos c1]; omega
    · rw [if_neg c1]
      by_cases c2 : i = 9
      · rw [if_pos c2]; omega
      · rw [if_neg c2]; omega
  have pp : ∀ (a k : Nat), a + k < 24 → partF (falS v x) (a : Int) k = falS v x (a + k) := fun a k h => partF_at _ a k h
  have p10 : ∀ k, k < 3 → partF (falS v x) 10 k = 0 := fun k hk => by
    have := pp 10 k (by omega); rw [show ((10 : Nat) : Int) = 10 from rfl] at this; rw [this, s10 v x _ (by omega)]
  have p13 : ∀ k, k < 3 → partF (falS v x) 13 k = 0 := fun k hk => by
    have := pp 13 k (by omega); rw [show ((13 : Nat) : Int) = 13 from rfl] at this; rw [this, s10 v x _ (by omega)]
  have p4 : ∀ k, k < 3 → partF (falS v x) 4 k = if k = 2 then v else 0 := fun k hk => by
    have := pp 4 k (by omega); rw [show ((4 : Nat) : Int) = 4 from rfl] at this; rw [this, s4 v x k hk]
  have p7 : ∀ k, k < 3 → partF (falS v x) 7 k = if k = 2 then x else 0 := fun k hk => by
    have := pp 7 k (by omega); rw [show ((7 : Nat) : Int) = 7 from rfl] at this; rw [this, s7 v x k hk]
  have z00 : subV 0 0 = 0 ∧ subH 0 0 = false := sub_same z0
  have eA : ∀ k, k < 3 → subV (falI us (2 + k)) (mulV (partF (falS v x) 10 k) dt 30) = 0 ∧ subH (falI us (2 + k)) (mulV (partF (falS v x) 10 k) dt 30) = false := fun k hk => by
    rw [i2 _ (by omega), p10 k hk, ml_zero]; exact z00
  have eD : ∀ k, k < 3 → subV (falI us (5 + k)) (mulV (partF (falS v x) 13 k) dt 30) = (fun _ => 0) k ∧ subH (falI us (5 + k)) (mulV (partF (falS v x) 13 k) dt 30) = false := fun k hk => by
    rw [i2 _ (by omega), p13 k hk, ml_zero]; exact z00
  have st := up_step (S := falS v x) (I := falI us) (D := fun _ => 0) (dt := dt) (hS v x) (hgood v x (by omega) (by omega) (by omega) (by omega)) (fun i hi => s10 v x i (by omega)) (by rw [i1, hdt]) (fun k hk => (eA k hk).1) (fun k hk => (eD k hk).1) (fun k _ => z0)
  have sat2 : ∀ k, k < 3 → ∀ a, -1000000000000000 ≤ a → a ≤ 1000000000000000 → SB (if k = 2 then a else 0) := fun k _ a h3 h4 => by unfold SB; split <;> omega
  have vaT : ∀ {L : Nat → Nat → Int} {n k : Nat} {y : Int}, n ≤ 3 → (∀ j, j < n → SB (L j k)) → sumS (fun j => L j k) n = y → SB y → vaV L n k = y ∧ vaH L n k = false := fun {L n k y} hn hb e hy => by
    have b : sumB (fun j => L j k) n = false := by
      have : ∀ m, m ≤ n → sumB (fun j => L j k) m = false := by
        intro m
        induction m with
        | zero => intro _; rfl
        | succ m ih => intro hm; simp only [sumB]; rw [ih (by omega), satH_sb (hb m (by omega))]; rfl
      exact this n (Nat.le_refl _)
    unfold vaV vaH
    rw [e, b, satV_sb hy, satH_sb hy]; exact ⟨rfl, rfl⟩
  have e0 : satV 0 = 0 := by decide
  have vN : ∀ k, k < 3 → upN (falS v x) (fun _ => 0) dt k = (if k = 2 then v + g else 0) ∧ vaH (v3L (partF (falS v x) 4) (fun _ => 0) (vc3 0 0 (mulV 10529810258 dt 30))) 3 k = false := fun k hk => by
    unfold upN
    rw [hg]
    refine vaT (by decide) (fun j hj => ?_) ?_ (sat2 k hk _ (by omega) (by omega))
    · obtain rfl | rfl | rfl : j = 0 ∨ j = 1 ∨ j = 2 := by omega
      · show SB (partF (falS v x) 4 k); rw [p4 k hk]; exact sat2 k hk _ (by omega) (by omega)
      · exact z0
      · show SB (vc3 0 0 g k); unfold vc3 SB; split <;> (try split) <;> omega
    · simp only [sumS, v3L]
      rw [p4 k hk, satV_sb (sat2 k hk v (by omega) (by omega)), e0]
      have g3 : SB g := by unfold SB; omega
      obtain rfl | rfl | rfl : k = 0 ∨ k = 1 ∨ k = 2 := by omega
      · rw [if_neg (by decide), if_neg (by decide), show vc3 0 0 g 0 = 0 from rfl, e0]; rfl
      · rw [if_neg (by decide), if_neg (by decide), show vc3 0 0 g 1 = 0 from rfl, e0]; rfl
      · rw [if_pos rfl, if_pos rfl, show vc3 0 0 g 2 = g from rfl, satV_sb g3]; omega
  have vM : ∀ k, k < 3 → upM (falS v x) (fun _ => 0) dt k = (if k = 2 then v + (v + g) else 0) ∧ vaH (v2L (partF (falS v x) 4) (upN (falS v x) (fun _ => 0) dt)) 2 k = false := fun k hk => by
    unfold upM
    refine vaT (by decide) (fun j hj => ?_) ?_ (sat2 k hk _ (by omega) (by omega))
    · obtain rfl | rfl : j = 0 ∨ j = 1 := by omega
      · show SB (partF (falS v x) 4 k); rw [p4 k hk]; exact sat2 k hk _ (by omega) (by omega)
      · show SB (upN (falS v x) (fun _ => 0) dt k); rw [(vN k hk).1]; exact sat2 k hk _ (by omega) (by omega)
    · simp only [sumS, v2L]
      rw [p4 k hk, (vN k hk).1, satV_sb (sat2 k hk v (by omega) (by omega)), satV_sb (sat2 k hk (v + g) (by omega) (by omega))]
      by_cases h : k = 2
      · rw [if_pos h, if_pos h, if_pos h]; omega
      · rw [if_neg h, if_neg h, if_neg h]; omega
  have hh : SB hf := by unfold SB; omega
  have vL : ∀ k, k < 3 → upL (falS v x) (fun _ => 0) dt k = (if k = 2 then l else 0) ∧ mulH (upM (falS v x) (fun _ => 0) dt k) hf 30 = false := fun k hk => by
    unfold upL
    rw [(vM k hk).1, hhf]
    by_cases h : k = 2
    · rw [if_pos h, if_pos h, hl]; exact ⟨rfl, mm.2.1⟩
    · rw [if_neg h, if_neg h]; exact ⟨ml_zero _, mlH_zero hh⟩
  have vX : ∀ k, k < 3 → upX (falS v x) (fun _ => 0) dt k = (if k = 2 then x + l else 0) ∧ vaH (v2L (partF (falS v x) 7) (upL (falS v x) (fun _ => 0) dt)) 2 k = false := fun k hk => by
    unfold upX
    have l1 : -16000000000 ≤ l ∧ l ≤ 16000000000 := by omega
    refine vaT (by decide) (fun j hj => ?_) ?_ (by unfold SB; split <;> omega)
    · obtain rfl | rfl : j = 0 ∨ j = 1 := by omega
      · show SB (partF (falS v x) 7 k); rw [p7 k hk]; exact sat2 k hk _ (by omega) (by omega)
      · show SB (upL (falS v x) (fun _ => 0) dt k); rw [(vL k hk).1]; exact sat2 k hk _ (by omega) (by omega)
    · simp only [sumS, v2L]
      rw [p7 k hk, (vL k hk).1, satV_sb (sat2 k hk x (by omega) (by omega)), satV_sb (sat2 k hk l (by omega) (by omega))]
      by_cases h : k = 2
      · rw [if_pos h, if_pos h, if_pos h]; omega
      · rw [if_neg h, if_neg h, if_neg h]; omega
  have eS : upS (falS v x) (fun _ => 0) dt = falS (v + g) (x + l) := by
    funext i
    unfold upS
    by_cases c1 : i < 4
    · rw [if_pos c1, hS _ _ i c1]
    · rw [if_neg c1]
      by_cases c2 : i < 7
      · obtain ⟨k, rfl⟩ : ∃ k, i = 4 + k := ⟨i - 4, by omega⟩
        rw [if_pos c2, show 4 + k - 4 = k by omega, (vN k (by omega)).1, s4 _ _ k (by omega)]
      · rw [if_neg c2]
        by_cases c3 : i < 10
        · obtain ⟨k, rfl⟩ : ∃ k, i = 7 + k := ⟨i - 7, by omega⟩
          rw [if_pos c3, show 7 + k - 7 = k by omega, (vX k (by omega)).1, s7 _ _ k (by omega)]
        · rw [if_neg c3, s10 _ _ i (by omega), s10 _ _ i (by omega)]
  have kp := keep_self (hgood (v + g) (x + l) (by omega) (by omega) (by omega) (by omega)) (fun i hi => s10 _ _ i (by omega))
  rw [st.1, st.2, eS]
  refine ⟨kp.1, ?_⟩
  unfold spAH upH
  rw [show ((10 : Nat) : Int) = 10 from rfl, show ((13 : Nat) : Int) = 13 from rfl, i1, sb.2.2, eS, kp.2, hhf, ug.1, ug.2.2.2.1,
    orB_noB (p := fun i => mulH (partF (falS v x) 10 i) dt 30) fun k hk => by rw [p10 k hk]; exact mlH_zero hdb,
    orB_noB (p := fun i => mulH (partF (falS v x) 13 i) dt 30) fun k hk => by rw [p13 k hk]; exact mlH_zero hdb,
    orB_noB (p := fun i => subH (falI us (2 + i)) (mulV (partF (falS v x) 10 i) dt 30)) fun k hk => (eA k hk).2,
    orB_noB (p := fun i => subH (falI us (5 + i)) (mulV (partF (falS v x) 13 i) dt 30)) fun k hk => (eD k hk).2,
    orB_noB (p := vaH (v3L (partF (falS v x) 4) (fun _ => 0) (vc3 0 0 (mulV 10529810258 dt 30))) 3) fun k hk => (vN k hk).2,
    orB_noB (p := vaH (v2L (partF (falS v x) 4) (upN (falS v x) (fun _ => 0) dt)) 2) fun k hk => (vM k hk).2,
    orB_noB (p := fun i => mulH (upM (falS v x) (fun _ => 0) dt i) hf 30) fun k hk => (vL k hk).2,
    orB_noB (p := vaH (v2L (partF (falS v x) 7) (upL (falS v x) (fun _ => 0) dt)) 2) fun k hk => (vX k hk).2]
  rfl
end Go.Proofs.Ytnnjcdbliaecgaa
