/- Chapter 12's examples and law, plainly: what Reset, Forget, Grow make. -/
import Derived.Test.YtglpbcionohipaaBlkG
import Derived.Test.YtglpbcionohipaaBlkF
namespace Go.Proofs.Ytglpbcionohipaa
/-- The states of a run. -/
def rtR (fr : Int) (n : Nat) (i : Nat) : Bool := decide (fr ≤ i ∧ (i : Int) < fr + n ∧ i < 24)
theorem rtF_eq (fr : Int) : ∀ n, rtF fr n = rsF (rtR fr n)
  | 0 => by
    funext x
    unfold rtF oneF rsF
    have : rtR fr 0 (x / 24) = false := by unfold rtR; simp; omega
    rw [this]
    split <;> split <;> first | rfl | (simp_all; done) | omega
  | n + 1 => by
    funext x
    simp only [rtF]
    rw [rtF_eq fr n]
    by_cases hI : rtI fr n = true
    · have hb : 0 ≤ fr + n ∧ fr + n < 24 := by unfold rtI at hI; simpa using hI
      rw [if_pos hI]
      obtain ⟨i, hi⟩ : ∃ i : Nat, fr + n = (i : Int) := ⟨(fr + n).toNat, by omega⟩
      rw [hi, Int.toNat_natCast]
      have hi24 : i < 24 := by omega
      unfold Go.Proofs.Ytglpbcionohipaa.upd rsF
      by_cases hx : x = i * 24 + i
      · subst hx
        rw [if_pos rfl, if_neg]
        intro h
        have h2 := h.2
        rw [show (i * 24 + i) / 24 = i by omega] at h2
        unfold rtR at h2
        simp at h2
        omega
      · rw [if_neg hx]
        have hR : x / 24 = x % 24 → rtR fr (n + 1) (x / 24) = rtR fr n (x / 24) := by
          intro hd
          have hne : x / 24 ≠ i := by omega
          unfold rtR
          rw [Bool.eq_iff_iff]
          simp
          omega
        by_cases hd : x / 24 = x % 24
        · rw [hR hd]
        · rw [if_neg (fun h => hd h.1), if_neg (fun h => hd h.1)]
    · have hb : ¬ (0 ≤ fr + n ∧ fr + n < 24) := by unfold rtI at hI; simpa using hI
      rw [if_neg hI]
      have hR : ∀ i, rtR fr (n + 1) i = rtR fr n i := by
        intro i
        unfold rtR
        rw [Bool.eq_iff_iff]
        simp
        omega
      unfold rsF
      rw [hR]
theorem rtQ_at (fr : Int) (L : Nat → Int) : ∀ n i, i < 24 → rtQ fr L n i = if rtR fr n i = true then varV (L ((i : Int) - fr).toNat) else 0
  | 0, i, hi => by
    have : rtR fr 0 i = false := by unfold rtR; simp; omega
    rw [this]; rfl
  | n + 1, i, hi => by
    simp only [rtQ]
    by_cases hI : rtI fr n = true
    · have hb : 0 ≤ fr + n ∧ fr + n < 24 := by unfold rtI at hI; simpa using hI
      rw [if_pos hI]
      unfold Go.Proofs.Ytglpbcionohipaa.upd
      by_cases hx : i = (fr + (n : Int)).toNat
      · rw [if_pos hx, if_pos (by unfold rtR; simp; omega), show ((i : Int) - fr).toNat = n by omega]
      · rw [if_neg hx, rtQ_at fr L n i hi]
        have : rtR fr (n + 1) i = rtR fr n i := by unfold rtR; rw [Bool.eq_iff_iff]; simp; omega
        rw [this]
    · have hb : ¬ (0 ≤ fr + n ∧ fr + n < 24) := by unfold rtI at hI; simpa using hI
      rw [if_neg hI, rtQ_at fr L n i hi]
      have : rtR fr (n + 1) i = rtR fr n i := by unfold rtR; rw [Bool.eq_iff_iff]; simp; omega
      rw [this]
/-- BlockApart's law, plainly. -/
theorem apart_law (f : Nat → Int) (fr : Nat) (n : Nat) (L : Nat → Int) (hn : fr + n ≤ 24) :
    (∀ k, k < n → stepF f (rtF fr n) (rtQ fr L n) (276 + (fr + k)) = varV (L k)) ∧
    ∀ k, k < n → ∀ j, j < 24 → j ≠ fr + k → uV (stepF f (rtF fr n) (rtQ fr L n)) (fr + k) j = 0 ∧ uV (stepF f (rtF fr n) (rtQ fr L n)) j (fr + k) = 0 := by
  have hR : ∀ k, k < n → rtR fr n (fr + k) = true := fun k hk => by unfold rtR; simp; omega
  have hQ : ∀ k, k < n → rtQ fr L n (fr + k) = varV (L k) := fun k hk => by
    rw [rtQ_at fr L n _ (by omega), if_pos (hR k hk), show (((fr + k : Nat) : Int) - (fr : Int)).toNat = k by omega]
  obtain ⟨h1, h2⟩ := block_apart f (rtR fr n) (rtQ fr L n) (fun i hi hr => by
    rw [rtQ_at fr L n i hi, if_pos hr]; exact varV_bd _)
  rw [rtF_eq]
  refine ⟨fun k hk => by rw [h1 _ (by omega) (hR k hk), hQ k hk], fun k hk j hj hne => ⟨?_, ?_⟩⟩
  · unfold uV
    rw [if_neg (by omega)]
    split
    · rename_i h; exact h2 _ _ h hj (.inl (hR k hk))
    · rfl
  · unfold uV
    rw [if_neg hne]
    split
    · rename_i h; exact h2 _ _ h (by omega) (.inr (hR k hk))
    · rfl
/-- The covariance of the examples: two variances. -/
def bkL : Nat → Int := fun _ => 17592186044416
def bk0 : Nat → Int := newF 2 bkL
theorem bk0_D {i : Nat} : bk0 (276 + i) = if i < 2 then 17592186044416 else 1 := by
  unfold bk0 newF
  rw [if_neg (by omega), show 276 + i - 276 = i by omega]
  split
  · simp only [bkL]; decide
  · rfl
theorem bk0_U {x : Nat} (hx : x < 276) : bk0 x = 0 := by unfold bk0 newF; rw [if_pos hx]
theorem bk0_diag : DiagF bk0 := ⟨fun x hx => bk0_U hx, fun i _ => by rw [bk0_D]; split <;> omega⟩
theorem newH_bk : newH 2 bkL = false := by decide
theorem bk_same {q : Nat → Int} (hq : ∀ i, i < 24 → q i = 0) : (∀ x, x < 300 → stepF bk0 oneF q x = bk0 x) ∧ stepH bk0 oneF q = false := by
  obtain ⟨h1, h2⟩ := step_diag bk0_diag (q := q) (fun i hi => by rw [hq i hi]; have := bk0_diag.2 i hi; omega)
  refine ⟨fun x hx => ?_, h2⟩
  rw [h1 x hx]
  split
  · rename_i h; rw [bk0_U h]
  · rw [hq _ (by omega), Int.add_zero]
def bkF5 : Nat → Int := stepF bk0 (rtF 0 1) (rtQ 0 (fun _ => 5) 1)
theorem bk_reset : bkF5 276 = 5 ∧ bkF5 277 = 17592186044416 ∧ stepH bk0 (rtF 0 1) (rtQ 0 (fun _ => 5) 1) = false ∧ orB (rtB 0 (fun _ => 5)) 1 = false := by
  have hR : ∀ i, rtR 0 1 i = decide (i = 0) := fun i => by unfold rtR; rw [Bool.eq_iff_iff]; simp; omega
  have hQ : ∀ i, i < 24 → rtQ 0 (fun _ => 5) 1 i = if i = 0 then 5 else 0 := fun i hi => by
    rw [rtQ_at 0 _ 1 i hi, hR]
    by_cases h : i = 0
    · rw [if_pos (by simp [h]), if_pos h]; decide
    · rw [if_neg (by simp [h]), if_neg h]
  have hE : ∀ i, i < 24 → dgE (rtR 0 1) (fun i => bk0 (276 + i)) i = if i = 0 then 0 else bk0 (276 + i) := fun i _ => by
    unfold dgE; rw [hR]
    by_cases h : i = 0
    · rw [if_pos (by simp [h]), if_pos h]
    · rw [if_neg (by simp [h]), if_neg h]
  have hP : RsP (rtR 0 1) bk0 := ⟨fun i j h1 h2 => by rw [bk0_U (pl_lt h1 h2)]; omega, fun i j h1 h2 _ => bk0_U (pl_lt h1 h2), bk0_diag.2⟩
  obtain ⟨h1, h2⟩ := step_reset hP (q := rtQ 0 (fun _ => 5) 1) (fun i hi => by rw [hQ i hi]; split <;> omega) (fun i hi => by
    rw [hE i hi, hQ i hi, bk0_D]; split <;> (first | omega | (split <;> omega)))
  unfold bkF5
  rw [rtF_eq]
  refine ⟨?_, ?_, h2, by decide⟩
  · rw [h1 276 (by omega), if_neg (by omega), hE _ (by omega), hQ _ (by omega)]; decide
  · rw [h1 277 (by omega), if_neg (by omega), hE _ (by omega), hQ _ (by omega)]; decide
theorem fgF_yes {L : Nat → Int} {k : Nat} (h : fgI (fgF L k) (L k) = true) : fgF L (k + 1) = upd (fgF L k) ((L k).toNat * 24 + (L k).toNat) 0 := if_pos h
theorem fgF_no {L : Nat → Int} {k : Nat} (h : ¬ fgI (fgF L k) (L k) = true) : fgF L (k + 1) = fgF L k := if_neg h
theorem fgQ_yes {f L : Nat → Int} {k : Nat} (h : fgI (fgF L k) (L k) = true) : fgQ f L (k + 1) = upd (fgQ f L k) (L k).toNat (varV (atV f (L k).toNat (L k).toNat)) := if_pos h
theorem fgQ_no {f L : Nat → Int} {k : Nat} (h : ¬ fgI (fgF L k) (L k) = true) : fgQ f L (k + 1) = fgQ f L k := if_neg h
theorem fgB_yes {f L : Nat → Int} {k : Nat} (h : fgI (fgF L k) (L k) = true) : fgB f L k = (atH f (L k).toNat (L k).toNat || varH (atV f (L k).toNat (L k).toNat)) := if_pos h
theorem fgB_no {f L : Nat → Int} {k : Nat} (h : ¬ fgI (fgF L k) (L k) = true) : fgB f L k = false := if_neg h
theorem fgI_0 : fgI (fgF (fun _ => 0) 0) ((fun _ : Nat => (0 : Int)) 0) = true := by decide
/-- The same with One above the diagonal, between the two states. -/
def bk1 : Nat → Int := upd bk0 (pl 0 1) 1073741824
def bkF0 : Nat → Int := stepF bk1 (fgF (fun _ => 0) 1) (fgQ bk1 (fun _ => 0) 1)
theorem bk1_at : atV bk1 0 0 = 35184372088832 ∧ atH bk1 0 0 = false := by decide +kernel
theorem fgF_0 : fgF (fun _ => 0) 1 = rsF (fun i => decide (i = 0)) := by
  rw [fgF_yes fgI_0]
  funext x
  show Go.Proofs.Ytglpbcionohipaa.upd oneF 0 0 x = _
  unfold Go.Proofs.Ytglpbcionohipaa.upd rsF oneF
  by_cases hx : x = 0
  · subst hx; rw [if_pos rfl, if_neg (by simp)]
  · rw [if_neg hx]
    by_cases hd : x / 24 = x % 24
    · rw [if_pos hd, if_pos ⟨hd, by simp; omega⟩]
    · rw [if_neg hd, if_neg (fun h => hd h.1)]
theorem fgQ_0 (i : Nat) : fgQ bk1 (fun _ => 0) 1 i = if i = 0 then 35184372088832 else 0 := by
  rw [fgQ_yes fgI_0]
  show Go.Proofs.Ytglpbcionohipaa.upd (fun _ => 0) 0 (varV (atV bk1 0 0)) i = _
  unfold Go.Proofs.Ytglpbcionohipaa.upd
  rw [bk1_at.1]
  split
  · decide
  · rfl
theorem bk_forget : bkF0 276 = 35184372088832 ∧ uV bkF0 0 1 = 0 ∧ stepH bk1 (fgF (fun _ => 0) 1) (fgQ bk1 (fun _ => 0) 1) = false ∧ orB (fgB bk1 (fun _ => 0)) 1 = false := by
  have hD : ∀ i, bk1 (276 + i) = bk0 (276 + i) := fun i => by unfold bk1 Go.Proofs.Ytglpbcionohipaa.upd; rw [if_neg (by unfold pl; omega)]
  have hU : ∀ i j, i < j → j < 24 → bk1 (pl i j) = if i = 0 ∧ j = 1 then 1073741824 else 0 := fun i j h1 h2 => by
    unfold bk1 Go.Proofs.Ytglpbcionohipaa.upd
    by_cases h : i = 0 ∧ j = 1
    · obtain ⟨rfl, rfl⟩ := h; rw [if_pos rfl, if_pos ⟨rfl, rfl⟩]
    · rw [if_neg (fun e => h (pl_inj2 h1 (by omega) h2 (by omega) e)), if_neg h, bk0_U (pl_lt h1 h2)]
  have hE : ∀ i, i < 24 → dgE (fun i => decide (i = 0)) (fun i => bk1 (276 + i)) i = if i = 0 then 0 else bk0 (276 + i) := fun i _ => by
    show (if decide (i = 0) = true then 0 else bk1 (276 + i)) = _
    rw [hD]
    by_cases h : i = 0
    · rw [if_pos (by simp [h]), if_pos h]
    · rw [if_neg (by simp [h]), if_neg h]
  have hP : RsP (fun i => decide (i = 0)) bk1 := by
    refine ⟨fun i j h1 h2 => ?_, fun i j h1 h2 hR => ?_, fun i hi => by rw [hD]; exact bk0_diag.2 i hi⟩
    · rw [hU i j h1 h2]; split <;> omega
    · rw [hU i j h1 h2, if_neg]; simp at hR; omega
  obtain ⟨h1, h2⟩ := step_reset hP (q := fgQ bk1 (fun _ => 0) 1) (fun i hi => by rw [fgQ_0]; split <;> omega) (fun i hi => by
    rw [hE i hi, fgQ_0, bk0_D]; split <;> (first | omega | (split <;> omega)))
  have hF : orB (fgB bk1 (fun _ => 0)) 1 = false := by
    show (false || fgB bk1 (fun _ => 0) 0) = false
    rw [fgB_yes fgI_0]
    show (false || (atH bk1 0 0 || varH (atV bk1 0 0))) = false
    rw [bk1_at.1, bk1_at.2]; decide
  unfold bkF0
  rw [fgF_0]
  refine ⟨?_, ?_, h2, hF⟩
  · rw [h1 276 (by omega), if_neg (by omega), hE _ (by omega), fgQ_0]; decide
  · unfold uV
    rw [if_neg (by decide), if_pos (by decide), h1 _ (by decide), if_pos (by decide)]
def bkF7 : Nat → Int := stepF bk0 oneF (gwQ 1 (fun _ => 7) 1)
theorem gwQ_7 (i : Nat) : gwQ 1 (fun _ => 7) 1 i = if i = 1 then 7 else 0 := by
  have hI : rtI 1 0 = true := by decide
  simp only [gwQ]
  rw [if_pos hI]
  unfold Go.Proofs.Ytglpbcionohipaa.upd
  rfl
theorem bk_grow : bkF7 277 = 17592186044423 ∧ stepH bk0 oneF (gwQ 1 (fun _ => 7) 1) = false := by
  obtain ⟨h1, h2⟩ := step_diag bk0_diag (q := gwQ 1 (fun _ => 7) 1) (fun i hi => by
    rw [gwQ_7, bk0_D]; split <;> split <;> omega)
  refine ⟨?_, h2⟩
  unfold bkF7
  rw [h1 277 (by omega), if_neg (by omega), gwQ_7]
  decide
/-- BlockKnown's three. -/
def bkM : Nat → Int := fun i => if i = 0 then -1 else 24
theorem bk_known : rtF 24 1 = oneF ∧ rtQ 24 (fun _ => 5) 1 = (fun _ => 0) ∧ orB (rtB 24 (fun _ => 5)) 1 = false ∧ fgF bkM 2 = oneF ∧ fgQ bk0 bkM 2 = (fun _ => 0) ∧ orB (fgB bk0 bkM) 2 = false := by
  have hI : ¬ rtI 24 0 = true := by decide
  have h0 : ¬ fgI (fgF bkM 0) (bkM 0) = true := by decide
  have f1 : fgF bkM 1 = oneF := fgF_no h0
  have h1 : ¬ fgI (fgF bkM 1) (bkM 1) = true := by rw [f1]; decide
  refine ⟨if_neg hI, if_neg hI, ?_, (fgF_no h1).trans f1, (fgQ_no h1).trans (fgQ_no h0), ?_⟩
  · show (false || rtB 24 (fun _ => 5) 0) = false
    rw [show rtB 24 (fun _ => 5) 0 = false from if_neg hI]; rfl
  · show (false || fgB bk0 bkM 0 || fgB bk0 bkM 1) = false
    rw [fgB_no h0, fgB_no h1]; rfl
end Go.Proofs.Ytglpbcionohipaa
