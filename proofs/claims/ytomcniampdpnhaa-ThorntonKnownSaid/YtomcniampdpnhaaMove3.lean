/- thornton.Step of variances alone: place by velocity (plain law, 4): all that comes out. No program. -/
import Derived.Test.YtomcniampdpnhaaMove2
namespace Go.Proofs.Ytomcniampdpnhaa
def mvH4 (t A B : Int) : Bool := (mulH (mvL t A B) A 30 || mulH (-(mvU t A B)) B 30) || (satH (rsh (mvS t A B) 30) || varH (satV (rsh (mvS t A B) 30)))
theorem orB_two {p : Nat → Bool} {n a b : Nat} (hab : a < b) (hb : b < n) (h : ∀ i, i < n → i ≠ a → i ≠ b → p i = false) : orB p n = (p a || p b) := by
  induction n with
  | zero => omega
  | succ n ih =>
    simp only [orB]
    by_cases e1 : b = n
    · subst e1; rw [orB_one (a := a) hab fun i hi h1 => h i (by omega) h1 (by omega)]
    · rw [ih (by omega) fun i hi => h i (by omega), h n (by omega) (by omega) (by omega)]; simp
theorem mvV_at {t A B : Int} {i k : Nat} (hk : k < 48) : mvV t A B (i * 48 + k) = if i = 4 then (if k = 4 then mvL t A B else if k = 7 ∨ k = 31 then -(mvU t A B) else if k = 28 then 1073741824 else 0) else mvW 7 4 t (i * 48 + k) := by
  unfold mvV
  rw [show (i * 48 + k) / 48 = i by omega, show (i * 48 + k) % 48 = k by omega]
theorem mvV_sb {t A B : Int} (ht : SB t) (x : Nat) : SB (mvV t A B x) := by
  unfold mvV
  split
  · split
    · exact sb_subV _ _
    · split
      · exact sb_neg (sb_divV _ _ _)
      · split; exact sb_one; exact sb_0
  · exact mvW_sb ht x
section
variable {e : Nat → Int} (he2 : ∀ j, j < 24 → 1 ≤ e j ∧ e j ≤ 72057594037927936) (he3 : ∀ j, j < 24 → e (24 + j) = 0) {t : Int} (ht : SB t)
variable {W : Nat → Int} (hW : ∀ x, x < 1152 → W x = mvV t (e 4) (e 7) x)
include he2 he3 hW in
theorem mv4_Y {k : Nat} (hk : k < 48) : stY W e 4 k = (if k = 4 then mulV (mvL t (e 4) (e 7)) (e 4) 30 else if k = 7 then mulV (-(mvU t (e 4) (e 7))) (e 7) 30 else 0) ∧
    yB W e 4 k = (if k = 4 then mulH (mvL t (e 4) (e 7)) (e 4) 30 else if k = 7 then mulH (-(mvU t (e 4) (e 7))) (e 7) 30 else false) := by
  have hu : SB (-(mvU t (e 4) (e 7))) := sb_neg (sb_divV _ _ _)
  have hsb := sb_e he2 he3 k hk
  unfold stY yB
  rw [hW (4 * 48 + k) (by omega), mvV_at hk, if_pos rfl]
  by_cases e4 : k = 4
  · rw [if_pos e4, if_pos e4, if_pos e4, e4]
    exact ⟨rfl, rfl⟩
  · rw [if_neg e4, if_neg e4, if_neg e4]
    by_cases e7 : k = 7
    · rw [if_pos (.inl e7), if_pos e7, if_pos e7, e7]
      exact ⟨rfl, rfl⟩
    · rw [if_neg e7, if_neg e7]
      by_cases e31 : k = 31
      · rw [if_pos (.inr e31), e31, he3 7 (by decide), mulV_comm, mulH_comm]; exact ⟨mulV_0 _, mulH_0 hu.1 hu.2⟩
      · rw [if_neg (by omega)]
        by_cases e28 : k = 28
        · rw [if_pos e28, e28, he3 4 (by decide), mulV_comm, mulH_comm]; exact ⟨mulV_0 _, mulH_0 (by decide) (by decide)⟩
        · rw [if_neg e28]; exact ⟨mulV_0 _, mulH_0 hsb.1 hsb.2⟩
include he2 he3 ht hW in
theorem stage4 : (∀ x, x < 1152 → elW W e 4 4 0 x = W x) ∧ (∀ i, i < 4 → stU W e 4 i = 0) ∧ (mvH4 t (e 4) (e 7) = false → stageH W e 4 = false) ∧ stD W e 4 = mvG t (e 4) (e 7) := by
  have hWs : ∀ x, x < 1152 → SB (W x) := fun x hx => by rw [hW x hx]; exact mvV_sb ht x
  have hY2 : ∀ k, k < 48 → SB (stY W e 4 k) := fun k hk => by
    rw [(mv4_Y he2 he3 hW hk).1]
    split
    · exact sb_mulV _ _ _
    · split; exact sb_mulV _ _ _; exact sb_0
  have hdot : dotS (rowF 48 W 4) (stY W e 4) 48 = mvS t (e 4) (e 7) := by
    rw [dotS_2 (a := 4) (b := 7) (by decide) (by decide) (by decide)]
    · rw [satV_sb (hY2 4 (by decide)), satV_sb (hY2 7 (by decide)), (mv4_Y he2 he3 hW (by decide)).1, (mv4_Y he2 he3 hW (by decide)).1, if_pos rfl, if_neg (by decide), if_pos rfl]
      simp only [rowF]
      rw [hW _ (by decide), hW _ (by decide), mvV_at (by decide), mvV_at (by decide), satV_sb (show SB (if 4 = 4 then _ else _) from ?_), satV_sb (show SB (if 4 = 4 then _ else _) from ?_)]
      · rfl
      · rw [if_pos rfl, if_neg (by decide), if_pos (.inl rfl)]; exact sb_neg (sb_divV _ _ _)
      · rw [if_pos rfl, if_pos rfl]; exact sb_subV _ _
    · intro k hk h1 h2
      right; rw [(mv4_Y he2 he3 hW hk).1, if_neg h1, if_neg h2]
  have hdB : dotB (rowF 48 W 4) (stY W e 4) 48 = false := dotB_no fun k hk => ⟨satH_sb (hWs (4 * 48 + k) (by omega)), satH_sb (hY2 k hk)⟩
  have hD : stD W e 4 = mvG t (e 4) (e 7) := by
    unfold stD dotV
    rw [if_neg (by decide), hdot]; rfl
  have hrow : ∀ i, i < 4 → ∀ k, k < 48 → W (i * 48 + k) = 0 ∨ stY W e 4 k = 0 := by
    intro i hi k hk
    by_cases h : k = 4 ∨ k = 7
    · left
      rw [hW _ (by omega), mvV_at hk, if_neg (by omega), mvWo (by omega) hk, if_neg (by omega)]
    · right; rw [(mv4_Y he2 he3 hW hk).1, if_neg (by omega), if_neg (by omega)]
  by_cases hH : mvH4 t (e 4) (e 7) = false
  · have hH' := hH
    unfold mvH4 at hH'
    rw [Bool.or_eq_false_iff, Bool.or_eq_false_iff, Bool.or_eq_false_iff] at hH'
    have hd : dB W e 4 = false := by
      unfold dB dotH dotV
      rw [if_neg (by decide), if_neg (by decide), hdot, hdB, show (30 : Int).toNat = 30 from rfl, hH'.2.1, hH'.2.2]; rfl
    have hy : ∀ k, k < 48 → yB W e 4 k = false := by
      intro k hk
      rw [(mv4_Y he2 he3 hW hk).2]
      split
      · exact hH'.1.1
      · split; exact hH'.1.2; rfl
    obtain ⟨a, b, c⟩ := stage_q (j := 4) (by decide) hWs (sb_e he2 he3) hrow hY2 hy hd
    exact ⟨a, b, fun _ => c, hD⟩
  · have hD' : 1 ≤ stD W e 4 ∧ stD W e 4 ≤ 72057594037927936 := by unfold stD; exact varV_bd _
    have hu : ∀ i, i < 4 → stU W e 4 i = 0 := by
      intro i hi
      unfold stU dotV
      rw [if_neg (by decide), dotS_no (A := rowF 48 W i) fun k hk => hrow i hi k hk, show (30 : Int).toNat = 30 from rfl, rsh_0, satV_0]
      exact divV_z (by rw [satV_id (by omega) (by omega)]; omega) _
    refine ⟨fun x hx => ?_, hu, fun h => absurd h hH, hD⟩
    unfold elW
    split
    · unfold elV
      rw [hu _ (by omega), mulV_0, show x / 48 * 48 + x % 48 = x by omega]
      exact subV_0 (hWs x hx).1 (hWs x hx).2
    · rfl
end
theorem outI_7 {O W e : Nat → Int} {u : Int} (hu : ∀ i, i < 7 → stU W e 7 i = if i = 4 then u else 0) (x : Nat) : outI O W e 7 7 x = if x = 283 then stD W e 7 else if x = 25 then u else if 21 ≤ x ∧ x < 28 then 0 else O x := by
  have h : ∀ m, m ≤ 7 → outI O W e 7 m x = if x = 283 then stD W e 7 else if x = 25 ∧ 4 < m then u else if 21 ≤ x ∧ x < 21 + m then 0 else O x := by
    intro m
    induction m with
    | zero =>
      intro _
      simp only [outI, upd]
      by_cases e1 : x = 276 + 7
      · rw [if_pos e1, if_pos (by omega)]
      · rw [if_neg e1, if_neg (by omega), if_neg (by omega), if_neg (by omega)]
    | succ m ih =>
      intro hm
      simp only [outI, upd]
      rw [ih (by omega), hu m (by omega), show pl m 7 = 21 + m from rfl]
      by_cases e1 : x = 21 + m
      · rw [if_pos e1, if_neg (show ¬ x = 283 by omega)]
        by_cases e4 : m = 4
        · rw [if_pos e4, if_pos (show x = 25 ∧ 4 < m + 1 by omega)]
        · rw [if_neg e4, if_neg (show ¬ (x = 25 ∧ 4 < m + 1) by omega), if_pos (show 21 ≤ x ∧ x < 21 + (m + 1) by omega)]
      · rw [if_neg e1]
        split
        · rfl
        · split <;> split <;> first | rfl | omega | (split <;> first | rfl | omega) | (split <;> split <;> first | rfl | omega)
  rw [h 7 (Nat.le_refl _)]
  split
  · rfl
  · split <;> split <;> first | rfl | omega | (split <;> first | rfl | omega)
/-- Place by velocity: what comes out of a step. -/
theorem move_step {f : Nat → Int} (hf : DiagF f) {t : Int} (ht : SB t) :
    (∀ x, x < 300 → stepF f (mvF 7 4 t) (fun _ => 0) x = if x = 25 then mvU t (f 280) (f 283) else if x = 283 then mvD t (f 280) (f 283) else if x = 280 then mvG t (f 280) (f 283) else f x) ∧
    (mvH7 t (f 280) (f 283) = false → mvH4 t (f 280) (f 283) = false → stepH f (mvF 7 4 t) (fun _ => 0) = false) := by
  have hE := fun {k : Nat} (hk : k < 48) => mv_E hf hk
  have hW0 : ∀ x, x < 1152 → stepW f (mvF 7 4 t) x = mvW 7 4 t x := fun x hx => mv_W hf (by decide) ht x hx
  have hH0 := mv_H0 hf ht (a := 7) (b := 4)
  have e4 : stepE f (fun _ => 0) 4 = f 280 := by rw [hE (by decide)]; rfl
  have e7 : stepE f (fun _ => 0) 7 = f 283 := by rw [hE (by decide)]; rfl
  unfold stepF stepH
  rw [hH0.1, hH0.2.1, hH0.2.2]
  have he2 : ∀ j, j < 24 → 1 ≤ stepE f (fun _ => 0) j ∧ stepE f (fun _ => 0) j ≤ 72057594037927936 := fun j hj => by rw [hE (by omega), if_pos hj]; exact hf.2 j hj
  have he3 : ∀ j, j < 24 → stepE f (fun _ => 0) (24 + j) = 0 := fun j hj => by rw [hE (by omega), if_neg (by omega)]
  have hEf : ∀ j, j < 24 → stepE f (fun _ => 0) j = f (276 + j) := fun j hj => by rw [hE (by omega), if_pos hj]
  generalize stepW f (mvF 7 4 t) = W at *
  generalize stepE f (fun _ => 0) = e at *
  have he := sb_e he2 he3
  -- the rows 23 to 8
  obtain ⟨a1, a2, a3⟩ := run_plain (W := W) he he2 he3 (V := mvW 7 4 t) (O := fun _ => 0) (fun x _ => mvW_sb ht x) (n := 0) (by decide) ⟨hW0, rfl, fun x _ => rfl, fun x _ => rfl⟩ 16 (by decide) (fun j h1 h2 =>
    ⟨fun k hk => mvWo (by omega) hk, fun i hi => by
      by_cases e1 : i = 7
      · subst e1; rw [mvW7 (by omega), if_neg (by omega), if_neg (by omega)]
      · rw [mvWo e1 (by omega), if_neg (by omega)]⟩)
  rw [Nat.zero_add] at a1 a2 a3
  -- row 7
  have b1 : ∀ x, x < 1152 → WN W e 17 x = mvV t (e 4) (e 7) x := fun x hx => mv7_W he2 he3 ht a1 x hx
  have b2 : HN W e 17 = mvH7 t (e 4) (e 7) := by
    show (HN W e 16 || stageH (WN W e 16) e 7) = _
    rw [a2, mv7_H he2 he3 ht a1]; rfl
  have b3 : ∀ x, x < 300 → ON W e 17 x = if x = 283 then mvD t (e 4) (e 7) else if x = 25 then mvU t (e 4) (e 7) else if 284 ≤ x then e (x - 276) else 0 := by
    intro x hx
    show outI (ON W e 16) (WN W e 16) e 7 7 x = _
    rw [outI_7 (u := mvU t (e 4) (e 7)) (fun i hi => mv7_U he2 he3 ht a1 hi), mv7_D he2 he3 ht a1, a3 x hx]
    split
    · rfl
    · split
      · rfl
      · split <;> split <;> first | rfl | omega | (split <;> first | rfl | omega)
  have hs := fun (W' : Nat → Int) (hW' : ∀ x, x < 1152 → W' x = mvV t (e 4) (e 7) x) => stage4 he2 he3 ht hW'
  have hVr : ∀ j, j ≠ 4 → j ≠ 7 → j < 24 → (∀ k, k < 48 → mvV t (e 4) (e 7) (j * 48 + k) = if k = j ∨ k = 24 + j then 1073741824 else 0) := fun j h1 h2 h3 k hk => by
    rw [mvV_at hk, if_neg h1, mvWo h2 hk]
  have hVc : ∀ j, j ≠ 4 → j ≠ 7 → j < 24 → ∀ i, i < j → i ≠ 7 → mvV t (e 4) (e 7) (i * 48 + j) = 0 := fun j h1 h2 h3 i hi h7 => by
    rw [mvV_at (by omega)]
    by_cases e1 : i = 4
    · rw [if_pos e1, if_neg h1, if_neg (by omega), if_neg (by omega)]
    · rw [if_neg e1, mvWo h7 (by omega), if_neg (by omega)]
  -- the rows' values do not hang on the flags: the rows 6, 5
  have c0 : (∀ x, x < 1152 → WN W e 18 x = mvV t (e 4) (e 7) x) ∧ (HN W e 17 = false → HN W e 18 = false) ∧ ∀ x, x < 300 → ON W e 18 x = if x = 282 then e 6 else ON W e 17 x := by
    have hs := stage_plain (W := WN W e 17) (e := e) (j := 6) (by decide) (fun x hx => by rw [b1 x hx]; exact mvV_sb ht x) (fun k hk => by rw [b1 _ (by omega)]; exact hVr 6 (by decide) (by decide) (by decide) k hk) he (he3 _ (by decide)) (he2 _ (by decide)) (fun i hi => by rw [b1 _ (by omega)]; exact hVc 6 (by decide) (by decide) (by decide) i hi (by omega))
    refine ⟨fun x hx => ?_, fun h => ?_, fun x hx => ?_⟩
    · show elW (WN W e 17) e 6 6 0 x = _
      rw [hs.1 x hx, b1 x hx]
    · show (HN W e 17 || stageH (WN W e 17) e 6) = false
      rw [h, hs.2.2.1]; rfl
    · show outI (ON W e 17) (WN W e 17) e 6 6 x = _
      rw [outI_plain (by decide) hs.2.1 (fun y h1 h2 => by rw [b3 y (by omega), if_neg (by omega), if_neg (by omega), if_neg (by omega)]) 6 (Nat.le_refl _), hs.2.2.2]
  have c1 : (∀ x, x < 1152 → WN W e 19 x = mvV t (e 4) (e 7) x) ∧ (HN W e 17 = false → HN W e 19 = false) ∧ ∀ x, x < 300 → ON W e 19 x = if x = 281 then e 5 else if x = 282 then e 6 else ON W e 17 x := by
    have hs := stage_plain (W := WN W e 18) (e := e) (j := 5) (by decide) (fun x hx => by rw [c0.1 x hx]; exact mvV_sb ht x) (fun k hk => by rw [c0.1 _ (by omega)]; exact hVr 5 (by decide) (by decide) (by decide) k hk) he (he3 _ (by decide)) (he2 _ (by decide)) (fun i hi => by rw [c0.1 _ (by omega)]; exact hVc 5 (by decide) (by decide) (by decide) i hi (by omega))
    refine ⟨fun x hx => ?_, fun h => ?_, fun x hx => ?_⟩
    · show elW (WN W e 18) e 5 5 0 x = _
      rw [hs.1 x hx, c0.1 x hx]
    · show (HN W e 18 || stageH (WN W e 18) e 5) = false
      rw [c0.2.1 h, hs.2.2.1]; rfl
    · show outI (ON W e 18) (WN W e 18) e 5 5 x = _
      rw [outI_plain (by decide) hs.2.1 (fun y h1 h2 => by rw [c0.2.2 y (by omega), if_neg (by omega), b3 y (by omega), if_neg (by omega), if_neg (by omega), if_neg (by omega)]) 5 (Nat.le_refl _), hs.2.2.2, c0.2.2 x hx]
  -- row 4
  have d := hs _ c1.1
  have d1 : ∀ x, x < 1152 → WN W e 20 x = mvV t (e 4) (e 7) x := fun x hx => (d.1 x hx).trans (c1.1 x hx)
  have d3 : ∀ x, x < 300 → ON W e 20 x = if x = 280 then mvG t (e 4) (e 7) else ON W e 19 x := by
    intro x hx
    show outI (ON W e 19) (WN W e 19) e 4 4 x = _
    rw [outI_plain (by decide) d.2.1 (fun y h1 h2 => by rw [c1.2.2 y (by omega), if_neg (by omega), if_neg (by omega), b3 y (by omega), if_neg (by omega), if_neg (by omega), if_neg (by omega)]) 4 (Nat.le_refl _), d.2.2.2]
  -- the rows 3 to 0
  have last : ∀ m, m ≤ 4 → (∀ x, x < 1152 → WN W e (20 + m) x = mvV t (e 4) (e 7) x) ∧ (HN W e 20 = false → HN W e (20 + m) = false) ∧ ∀ x, x < 300 → ON W e (20 + m) x = if 280 - m ≤ x ∧ x < 280 then e (x - 276) else ON W e 20 x := by
    intro m
    induction m with
    | zero => intro _; exact ⟨d1, id, fun x hx => by rw [if_neg (by omega)]⟩
    | succ m ih =>
      intro hm
      obtain ⟨i1, i2, i3⟩ := ih (by omega)
      have hj : 23 - (20 + m) = 3 - m := by omega
      have hs := stage_plain (W := WN W e (20 + m)) (e := e) (j := 3 - m) (by omega) (fun x hx => by rw [i1 x hx]; exact mvV_sb ht x) (fun k hk => by rw [i1 _ (by omega)]; exact hVr (3 - m) (by omega) (by omega) (by omega) k hk) he (he3 _ (by omega)) (he2 _ (by omega)) (fun i hi => by rw [i1 _ (by omega)]; exact hVc (3 - m) (by omega) (by omega) (by omega) i hi (by omega))
      have hsep := tri_sep (j := 4) (k := 3 - m) (by decide) (by omega)
      refine ⟨fun x hx => ?_, fun h => ?_, fun x hx => ?_⟩
      · show elW (WN W e (20 + m)) e (23 - (20 + m)) (23 - (20 + m)) 0 x = _
        rw [hj, hs.1 x hx, i1 x hx]
      · show (HN W e (20 + m) || stageH (WN W e (20 + m)) e (23 - (20 + m))) = false
        rw [hj, i2 h, hs.2.2.1]; rfl
      · show outI (ON W e (20 + m)) (WN W e (20 + m)) e (23 - (20 + m)) (23 - (20 + m)) x = _
        rw [hj, outI_plain (by omega) hs.2.1 (fun y h1 h2 => by rw [i3 y (by omega), if_neg (by omega), d3 y (by omega), if_neg (by omega), c1.2.2 y (by omega), if_neg (by omega), if_neg (by omega), b3 y (by omega), if_neg (by omega), if_neg (by omega), if_neg (by omega)]) _ (Nat.le_refl _), hs.2.2.2, i3 x hx]
        by_cases e1 : x = 276 + (3 - m)
        · rw [if_pos e1, if_pos (by omega), e1, show 276 + (3 - m) - 276 = 3 - m by omega]
        · rw [if_neg e1]
          split <;> split <;> first | rfl | omega
  obtain ⟨l1, l2, l3⟩ := last 4 (Nat.le_refl _)
  have hn : ∀ x, x < 276 → f x = 0 := hf.1
  refine ⟨fun x hx => ?_, fun h7 h4 => ?_⟩
  · show ON W e (20 + 4) x = _
    rw [l3 x hx, d3 x hx, c1.2.2 x hx, b3 x hx]
    by_cases x25 : x = 25
    · rw [if_neg (by omega), if_neg (by omega), if_neg (by omega), if_neg (by omega), if_neg (by omega), if_pos x25, if_pos x25, e4, e7]
    · rw [if_neg x25, if_neg x25]
      by_cases x283 : x = 283
      · rw [if_neg (by omega), if_neg (by omega), if_neg (by omega), if_neg (by omega), if_pos x283, if_pos x283, e4, e7]
      · rw [if_neg x283, if_neg x283]
        by_cases x280 : x = 280
        · rw [if_neg (by omega), if_pos x280, if_pos x280, e4, e7]
        · rw [if_neg x280, if_neg x280]
          by_cases x276 : x < 276
          · rw [if_neg (by omega), if_neg (by omega), if_neg (by omega), if_neg (by omega), hn x x276]
          · have hx' := hEf (x - 276) (by omega)
            rw [show 276 + (x - 276) = x by omega] at hx'
            by_cases x281 : x = 281
            · subst x281; rw [if_neg (by omega), if_pos rfl]; exact hx'
            · by_cases x282 : x = 282
              · subst x282; rw [if_neg (by omega), if_neg (by omega), if_pos rfl]; exact hx'
              · rw [if_neg x281, if_neg x282]
                split
                · exact hx'
                · rw [if_pos (by omega)]; exact hx'
  · rw [← e4, ← e7] at h7 h4
    have g2 : HN W e 20 = false := by
      show (HN W e 19 || stageH (WN W e 19) e 4) = false
      rw [c1.2.1 (b2.trans h7), d.2.2.1 h4]; rfl
    rw [show HN W e 24 = false from l2 g2]; rfl
end Go.Proofs.Ytomcniampdpnhaa
