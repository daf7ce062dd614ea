/- thornton.Step of variances alone: state 0 by state 1, by One (plain law). No program. -/
import Derived.Test.YtomcniampdpnhaaMove3
namespace Go.Proofs.Ytomcniampdpnhaa
theorem byV_self {d : Int} (h1 : 1 ≤ d) (_h2 : d ≤ 72057594037927936) : byV (d * 1073741824) d = 1073741824 ∧ byH (d * 1073741824) d = false := by
  unfold byV byH
  rw [if_neg (by omega), Int.mul_comm, rdiv_self_mul (by omega), satV_one, satH_one]
  refine ⟨rfl, ?_⟩
  simp; omega
theorem divV_self {d : Int} (h1 : 1 ≤ d) (h2 : d ≤ 72057594037927936) : divV d d 30 = 1073741824 ∧ divH d d 30 = false := by
  have hb := byV_self h1 h2
  have e : (2 : Int) ^ (30 : Int).toNat = 1073741824 := by decide
  unfold divV divH
  rw [if_neg (by decide), satV_id (by omega) (by omega), satH_no (by omega) (by omega), e, hb.1, hb.2]
  exact ⟨rfl, by decide⟩
/-- Row 0 behind the stage of row 1. -/
def mkV : Nat → Int := fun x => if x / 48 = 0 then (if x = 0 ∨ x = 24 then 1073741824 else if x = 25 then -1073741824 else 0) else mvW 0 1 1073741824 x
theorem move01_step {f : Nat → Int} (hf : DiagF f) :
    (∀ x, x < 300 → stepF f (mvF 0 1 1073741824) (fun _ => 0) x = if x = 0 then 1073741824 else f x) ∧ stepH f (mvF 0 1 1073741824) (fun _ => 0) = false := by
  have hE := fun {k : Nat} (hk : k < 48) => mv_E hf hk
  have ht : SB 1073741824 := sb_one
  have hW0 : ∀ x, x < 1152 → stepW f (mvF 0 1 1073741824) x = mvW 0 1 1073741824 x := fun x hx => mv_W hf (by decide) ht x hx
  have hH0 := mv_H0 hf ht (a := 0) (b := 1)
  unfold stepF stepH
  rw [hH0.1, hH0.2.1, hH0.2.2]
  have he2 : ∀ j, j < 24 → 1 ≤ stepE f (fun _ => 0) j ∧ stepE f (fun _ => 0) j ≤ 72057594037927936 := fun j hj => by rw [hE (by omega), if_pos hj]; exact hf.2 j hj
  have he3 : ∀ j, j < 24 → stepE f (fun _ => 0) (24 + j) = 0 := fun j hj => by rw [hE (by omega), if_neg (by omega)]
  have hEf : ∀ j, j < 24 → stepE f (fun _ => 0) j = f (276 + j) := fun j hj => by rw [hE (by omega), if_pos hj]
  generalize stepW f (mvF 0 1 1073741824) = W at *
  generalize stepE f (fun _ => 0) = e at *
  have he := sb_e he2 he3
  have hrow : ∀ i k, i ≠ 0 → k < 48 → mvW 0 1 1073741824 (i * 48 + k) = if k = i ∨ k = 24 + i then 1073741824 else 0 := fun i k hi hk => by rw [mvW_at (by decide) hk, if_neg (by omega)]
  have hrow0 : ∀ k, k < 48 → mvW 0 1 1073741824 (0 * 48 + k) = if k = 1 then 1073741824 else if k = 0 ∨ k = 24 then 1073741824 else 0 := fun k hk => by rw [mvW_at (by decide) hk]; simp only [true_and]
  have hsb0 : ∀ x, SB (mvW 0 1 1073741824 x) := fun x => by
    unfold mvW; split
    · exact ht
    · exact idW_bd x
  -- the rows 23 to 2
  obtain ⟨a1, a2, a3⟩ := run_plain (W := W) he he2 he3 (V := mvW 0 1 1073741824) (O := fun _ => 0) (fun x _ => hsb0 x) (n := 0) (by decide) ⟨hW0, rfl, fun x _ => rfl, fun x _ => rfl⟩ 22 (by decide) (fun j h1 h2 =>
    ⟨fun k hk => hrow j k (by omega) hk, fun i hi => by
      by_cases e1 : i = 0
      · subst e1; rw [hrow0 j (by omega), if_neg (by omega), if_neg (by omega)]
      · rw [hrow i j e1 (by omega), if_neg (by omega)]⟩)
  rw [Nat.zero_add] at a1 a2 a3
  -- row 1
  have h1 := he2 1 (by decide)
  have hr1 : ∀ k, k < 48 → WN W e 22 (1 * 48 + k) = if k = 1 ∨ k = 24 + 1 then 1073741824 else 0 := fun k hk => by rw [a1 _ (by omega)]; exact hrow 1 k (by decide) hk
  have hWs : ∀ x, x < 1152 → SB (WN W e 22 x) := fun x hx => by rw [a1 x hx]; exact hsb0 x
  obtain ⟨hY, hyB, hS⟩ := plain_row (W := WN W e 22) (e := e) (j := 1) (by decide) hr1 he (he3 1 (by decide)) h1
  obtain ⟨hD, hd⟩ := plain_D (W := WN W e 22) (e := e) (j := 1) (by decide) hWs hr1 he (he3 1 (by decide)) h1
  have hdot : dotS (rowF 48 (WN W e 22) 0) (stY (WN W e 22) e 1) 48 = 1073741824 * e 1 := by
    rw [dotS_1 (a := 1) (by decide)]
    · rw [hY 1 (by decide), if_pos rfl, satV_id (a := e 1) (by omega) (by omega)]
      simp only [rowF]
      rw [a1 _ (by decide), hrow0 1 (by decide), if_pos rfl, satV_one]
    · intro k hk hne; right; rw [hY k hk, if_neg hne]
  have hdB : dotB (rowF 48 (WN W e 22) 0) (stY (WN W e 22) e 1) 48 = false := dotB_no fun k hk => ⟨satH_sb (hWs (0 * 48 + k) (by omega)), by rw [hY k hk]; split; exact satH_no (by omega) (by omega); exact satH_0⟩
  have hself := divV_self h1.1 h1.2
  have hu : stU (WN W e 22) e 1 0 = 1073741824 := by
    unfold stU dotV
    rw [if_neg (by decide), hdot, hD, show (30 : Int).toNat = 30 from rfl, rsh_mul, satV_id (by omega) (by omega), hself.1]
  have huB : uB (WN W e 22) e 1 0 = false := by
    unfold uB dotH dotV
    rw [if_neg (by decide), if_neg (by decide), hdot, hdB, hD, show (30 : Int).toNat = 30 from rfl, rsh_mul, satV_id (by omega) (by omega), satH_no (by omega) (by omega), hself.2]; rfl
  have b1 : ∀ x, x < 1152 → WN W e 23 x = mkV x := by
    intro x hx
    show elW (WN W e 22) e 1 1 0 x = _
    unfold elW mkV
    by_cases h0 : x / 48 = 0
    · have hx48 : x < 48 := by omega
      have e0 := hrow0 x hx48
      rw [Nat.zero_mul, Nat.zero_add] at e0
      rw [if_pos (by omega), if_pos h0, h0]
      unfold elV
      rw [hu, hr1 _ (by omega), a1 _ (by omega), Nat.zero_mul, Nat.zero_add, show x % 48 = x by omega, e0]
      by_cases x1 : x = 1
      · rw [if_pos (show x = 1 ∨ x = 24 + 1 by omega), if_pos x1, if_neg (show ¬ (x = 0 ∨ x = 24) by omega), if_neg (show ¬ x = 25 by omega)]; decide
      · by_cases x25 : x = 25
        · rw [if_pos (show x = 1 ∨ x = 24 + 1 by omega), if_neg x1, if_neg (show ¬ (x = 0 ∨ x = 24) by omega), if_neg (show ¬ (x = 0 ∨ x = 24) by omega), if_pos x25]; decide
        · rw [if_neg (show ¬ (x = 1 ∨ x = 24 + 1) by omega), if_neg x1]
          by_cases x0 : x = 0 ∨ x = 24
          · rw [if_pos x0, if_pos x0]; decide
          · rw [if_neg x0, if_neg x0, if_neg x25]; decide
    · rw [if_neg (by omega), if_neg h0, a1 x hx]
  have b2 : HN W e 23 = false := by
    show (HN W e 22 || stageH (WN W e 22) e 1) = false
    rw [a2]
    unfold stageH
    rw [hd, orB_no hyB]
    have : orB (rowB (WN W e 22) e 1) 1 = false := by
      refine orB_no fun i hi => ?_
      obtain rfl : i = 0 := by omega
      unfold rowB
      rw [huB, hu, orB_no]; rfl
      intro k hk
      unfold elB
      rw [hr1 k hk, a1 _ (by omega), hrow0 k hk]
      split <;> split <;> first | decide | (split <;> decide)
    rw [this]; rfl
  have b3 : ∀ x, x < 300 → ON W e 23 x = if x = 0 then 1073741824 else if 277 ≤ x then e (x - 276) else 0 := by
    intro x hx
    show outI (ON W e 22) (WN W e 22) e 1 1 x = _
    simp only [outI, upd]
    rw [hu, hD, show pl 0 1 = 0 from rfl]
    by_cases x0 : x = 0
    · rw [if_pos x0, if_pos x0]
    · rw [if_neg x0, if_neg x0]
      by_cases x1 : x = 276 + 1
      · rw [if_pos x1, if_pos (by omega), x1]
      · rw [if_neg x1, a3 x hx]
        split <;> split <;> first | rfl | omega
  -- row 0
  have h0 := he2 0 (by decide)
  have hk0 : ∀ k, k < 48 → WN W e 23 (0 * 48 + k) = if k = 0 ∨ k = 24 then 1073741824 else if k = 25 then -1073741824 else 0 := fun k hk => by
    rw [b1 _ (by omega), Nat.zero_mul, Nat.zero_add]
    unfold mkV
    rw [if_pos (by omega)]
  have hVs : ∀ x, x < 1152 → SB (WN W e 23 x) := fun x hx => by
    rw [b1 x hx]
    unfold mkV
    split
    · split
      · exact sb_one
      · split
        · exact sb_neg sb_one
        · exact sb_0
    · exact hsb0 x
  have hY0 : ∀ k, k < 48 → stY (WN W e 23) e 0 k = (if k = 0 then e 0 else 0) ∧ yB (WN W e 23) e 0 k = false := by
    intro k hk
    have hsb := he k hk
    unfold stY yB
    rw [hk0 k hk]
    by_cases k0 : k = 0
    · rw [if_pos (.inl k0), if_pos k0, k0]; exact ⟨mulV_one (by omega) (by omega), mulH_one (by omega) (by omega)⟩
    · rw [if_neg k0]
      by_cases k24 : k = 24
      · rw [if_pos (.inr k24), k24, he3 0 (by decide)]; decide
      · rw [if_neg (by omega)]
        by_cases k25 : k = 25
        · rw [if_pos k25, k25, he3 1 (by decide)]; decide
        · rw [if_neg k25]; exact ⟨mulV_0 _, mulH_0 hsb.1 hsb.2⟩
  have hS0 : dotS (rowF 48 (WN W e 23) 0) (stY (WN W e 23) e 0) 48 = 1073741824 * e 0 := by
    rw [dotS_1 (a := 0) (by decide)]
    · rw [(hY0 0 (by decide)).1, if_pos rfl, satV_id (a := e 0) (by omega) (by omega)]
      simp only [rowF]
      rw [hk0 0 (by decide), if_pos (.inl rfl), satV_one]
    · intro k hk hne; right; rw [(hY0 k hk).1, if_neg hne]
  have hB0 : dotB (rowF 48 (WN W e 23) 0) (stY (WN W e 23) e 0) 48 = false := dotB_no fun k hk => ⟨satH_sb (hVs (0 * 48 + k) (by omega)), by rw [(hY0 k hk).1]; split; exact satH_no (by omega) (by omega); exact satH_0⟩
  have hD0 : stD (WN W e 23) e 0 = e 0 ∧ dB (WN W e 23) e 0 = false := by
    unfold stD dB dotV dotH
    rw [if_neg (by decide), if_neg (by decide), hS0, hB0, show (30 : Int).toNat = 30 from rfl, rsh_mul, satV_id (by omega) (by omega), satH_no (by omega) (by omega), (varV_id h0.1 h0.2).1, (varV_id h0.1 h0.2).2]
    exact ⟨rfl, rfl⟩
  refine ⟨fun x hx => ?_, ?_⟩
  · show outI (ON W e 23) (WN W e 23) e 0 0 x = _
    simp only [outI, upd]
    rw [hD0.1, b3 x hx]
    have hEx := fun (h : 276 ≤ x) => hEf (x - 276) (by omega)
    by_cases x0 : x = 0
    · rw [if_neg (by omega), if_pos x0, if_pos x0]
    · rw [if_neg x0, if_neg x0]
      by_cases x6 : x = 276 + 0
      · rw [if_pos x6, x6]; exact hEf 0 (by decide)
      · rw [if_neg x6]
        by_cases x7 : 277 ≤ x
        · have := hEx (by omega)
          rw [show 276 + (x - 276) = x by omega] at this
          rw [if_pos x7, this]
        · rw [if_neg x7, hf.1 x (by omega)]
  · have : HN W e 24 = false := by
      show (HN W e 23 || stageH (WN W e 23) e 0) = false
      rw [b2]
      unfold stageH
      rw [hD0.2, orB_no fun k hk => (hY0 k hk).2]; rfl
    rw [this]; rfl
end Go.Proofs.Ytomcniampdpnhaa
