/- Runs whose left half is unit triangular: nothing outgrows. No program beyond the numbers' names. -/
import Derived.Test.YtcombidoaghlbaaS01
namespace Go.Proofs.Ytcombidoaghlbaa
def cN : Nat → Int | 0 => 0 | m + 1 => cN m + cN m / 4 + 53
theorem cN_bd {m : Nat} (h : m ≤ 24) : 0 ≤ cN m ∧ cN m ≤ 44500 := by
  have : ∀ m : Fin 25, 0 ≤ cN m.val ∧ cN m.val ≤ 44500 := by decide +kernel
  exact this ⟨m, by omega⟩
section
variable {W e : Nat → Int} {kx n : Nat} {t A V : Nat → Nat → Int} (H : TriH W e kx) (T : TrP W e kx n t A V) (hn : n ≤ 24)
include H T hn
theorem tr_size {i : Nat} (hi : i < 24 - n) (hx : i ≠ kx) (hg : gr (rowF 48 (WN W e n) i) (rowF 48 (WN W e n) i) e ≤ 50706024009129176059868128215040) : ∀ m, m ≤ 24 → sg (fun p => ab (t i p)) m ≤ cN m * OO n
  | 0, _ => by simp [sg, cN]
  | m + 1, hm => by
    have ih := tr_size hi hx hg m (by omega)
    have hc := cN_bd (m := m) (by omega)
    have hP := OO_pos n
    have s0 : 0 ≤ sg (fun p => ab (t i p)) m := sg_nonneg fun p _ => (ab_bd _).1
    have e1 : cN (m + 1) * OO n = cN m * OO n + cN m / 4 * OO n + 53 * OO n := by
      show (cN m + cN m / 4 + 53) * OO n = _
      rw [Int.add_mul, Int.add_mul]
    have z0 : 0 ≤ cN m / 4 * OO n := Int.mul_nonneg (by omega) (by omega)
    have z1 : cN m / 4 * OO n ≤ 12500 * OO n := Int.mul_le_mul_of_nonneg_right (by omega) (by omega)
    have y1 : cN m * OO n ≤ (4 * (cN m / 4) + 3) * OO n := Int.mul_le_mul_of_nonneg_right (by omega) (by omega)
    rw [Int.add_mul, Int.mul_assoc] at y1
    show sg (fun p => ab (t i p)) m + ab (t i m) ≤ _
    rw [e1]
    by_cases hk : m = kx
    · rw [T.t4 i m hi hx hk, show ab 0 = 0 from rfl]
      omega
    · have r := T.r1 i m hi (by omega)
      have e2 : sg (fun p => t i p * A p m) 24 = sg (fun p => t i p * A p m) m + t i m * 1152921504606846976 := by
        have e3 : sg (fun p => t i p * A p m) 24 = sg (fun p => t i p * A p m) (m + 1) := by
          obtain ⟨k, hk⟩ : ∃ k, 24 = (m + 1) + k := ⟨24 - (m + 1), by omega⟩
          rw [hk, sg_app, sg_zero (n := k) fun q _ => ?_, Int.add_zero]
          rw [T.a2 (m + 1 + q) m (by omega) (by omega), Int.mul_zero]
        rw [e3]
        show sg (fun p => t i p * A p m) m + t i m * A m m = _
        rw [T.a1 m (by omega) hk]
      have b1 : ab (sg (fun p => t i p * A p m) m) ≤ 288230389036613632 * sg (fun p => ab (t i p)) m := by
        rw [show (fun p => t i p * A p m) = (fun p => A p m * t i p) from funext fun p => Int.mul_comm _ _]
        refine sg_bd fun p hp => ?_
        by_cases h2 : p = kx
        · subst h2
          rw [T.a4 (by omega) m (by omega)]; decide
        · have := T.a3 p m hp (by omega) h2
          have : (n : Int) * 536870912 ≤ 24 * 536870912 := by omega
          omega
      have w := ent_of_gr (a := rowF 48 (WN W e n) i) H.wt hg (k := m) (by omega) (H.big m (by omega))
      have w2 : ab (WN W e n (i * 48 + m)) ≤ 54760833024 := w
      have b2 : ab (OO (n + 1) * WN W e n (i * 48 + m)) ≤ 1073741824 * 54760833024 * OO n := by
        rw [ab_mul]
        have : ab (OO (n + 1)) = 1073741824 * OO n := by
          show ab (1073741824 * OO n) = _
          unfold ab; omega
        rw [this]
        have := Int.mul_le_mul_of_nonneg_left w2 (show 0 ≤ 1073741824 * OO n by omega)
        have e5 : 1073741824 * OO n * 54760833024 = 1073741824 * 54760833024 * OO n := by rw [Int.mul_assoc, Int.mul_comm (OO n), ← Int.mul_assoc]
        omega
      rw [r, e2] at b2
      have a1 := ab_bd (sg (fun p => t i p * A p m) m)
      have a2 := ab_le b2
      have a3 : ab (t i m) = t i m ∨ ab (t i m) = -(t i m) := by unfold ab; omega
      generalize sg (fun p => t i p * A p m) m = X at *
      generalize sg (fun p => ab (t i p)) m = s at *
      generalize cN m * OO n = y at *
      generalize cN m / 4 * OO n = z at *
      omega
theorem tr_n1 {i : Nat} (hi : i < 24 - n) (hg : gr (rowF 48 (WN W e n) i) (rowF 48 (WN W e n) i) e ≤ 50706024009129176059868128215040) : sg (fun k => ab (WN W e n (i * 48 + k))) 48 ≤ 50000000000000 := by
  by_cases hx : i = kx
  · subst hx
    rw [sg_only (a := 24 + i) (by omega) fun k hk hne => by rw [T.k1 (by omega) (by omega) k hk hne]; rfl, (T.z3 i (by omega)).1]
    decide
  · have hP := OO_pos n
    have s24 := tr_size H T hn hi hx hg 24 (Nat.le_refl _)
    have c24 : cN 24 ≤ 44500 := (cN_bd (Nat.le_refl _)).2
    have e48 : sg (fun k => ab (WN W e n (i * 48 + k))) 48 = sg (fun k => ab (WN W e n (i * 48 + k))) 24 + sg (fun m => ab (WN W e n (i * 48 + (24 + m)))) 24 := sg_app (fun k => ab (WN W e n (i * 48 + k))) 24 24
    rw [e48]
    have l : sg (fun k => ab (WN W e n (i * 48 + k))) 24 ≤ 24 * 54760833024 := by
      have h := sg_le (f := fun k => ab (WN W e n (i * 48 + k))) (g := fun _ => 54760833024) (n := 24) fun k hk => ent_of_gr (a := rowF 48 (WN W e n) i) H.wt hg (k := k) (by omega) (H.big k hk)
      rwa [sg_const] at h
    have hv : ∀ p, p < 24 → sg (fun m => ab (V p m)) 24 ≤ 1152921813844492288 := fun p hp => by
      have h := sg_le (f := fun m => ab (V p m)) (g := fun m => 12884901888 + (if m = p then 1152921504606846976 else 0)) (n := 24) fun m hm => by
        by_cases h : m = p
        · subst h; rw [T.v1 m hm, if_pos rfl]; decide
        · have := T.v2 p m hm hp (Ne.symm h)
          have : (n : Int) * 536870912 ≤ 24 * 536870912 := by omega
          rw [if_neg h]; omega
      rw [sg_add, sg_const, sg_only hp fun m _ hm => if_neg hm, if_pos rfl] at h
      omega
    have r : 1073741824 * OO n * sg (fun m => ab (WN W e n (i * 48 + (24 + m)))) 24 ≤ 1152921813844492288 * sg (fun p => ab (t i p)) 24 := by
      rw [← sg_mul]
      have h1 : ∀ m, m < 24 → 1073741824 * OO n * ab (WN W e n (i * 48 + (24 + m))) ≤ sg (fun p => ab (t i p) * ab (V p m)) 24 := fun m hm => by
        have e1 : 1073741824 * OO n * ab (WN W e n (i * 48 + (24 + m))) = ab (OO (n + 1) * WN W e n (i * 48 + (24 + m))) := by
          rw [ab_mul]
          congr 1
          show _ = ab (1073741824 * OO n)
          unfold ab; omega
        rw [e1, T.r2 i m hi hm]
        refine Int.le_trans (sg_ab _ _) (Int.le_of_eq (sg_congr fun p _ => ab_mul _ _))
      refine Int.le_trans (sg_le h1) ?_
      rw [sg_swap (fun m p => ab (t i p) * ab (V p m)), ← sg_mul]
      refine sg_le fun p hp => ?_
      rw [sg_mul, Int.mul_comm (1152921813844492288 : Int)]
      exact Int.mul_le_mul_of_nonneg_left (hv p hp) (ab_bd _).1
    have q : OO n * (1073741824 * sg (fun m => ab (WN W e n (i * 48 + (24 + m)))) 24) ≤ OO n * (1152921813844492288 * 44500) := by
      have a1 : cN 24 * OO n ≤ 44500 * OO n := Int.mul_le_mul_of_nonneg_right c24 (by omega)
      have e1 : OO n * (1073741824 * sg (fun m => ab (WN W e n (i * 48 + (24 + m)))) 24) = 1073741824 * OO n * sg (fun m => ab (WN W e n (i * 48 + (24 + m)))) 24 := by rw [← Int.mul_assoc, Int.mul_comm (OO n)]
      omega
    have q2 := Int.le_of_mul_le_mul_left q hP
    omega
end
theorem TriH.run {W e : Nat → Int} {kx : Nat} (H : TriH W e kx) : RunH W e (fun n => ∃ t A V, TrP W e kx n t A V) where
  he := H.wt
  p0 := ⟨_, _, _, tr_start H⟩
  g := H.g
  hN := fun n hn ⟨t, A, V, T⟩ hg i hi => tr_n1 H T (by omega) (by omega) (hg i hi)
  hS := fun n hn ⟨t, A, V, T⟩ => by
    by_cases h : 23 - n = kx
    · refine .inr ⟨24 + (23 - n), by omega, (T.z3 (23 - n) (by omega)).1, by rw [h]; exact H.ek (by omega), fun k hk hne => ?_, fun i hi => ?_⟩
      · rw [h]; exact T.k1 (by omega) (by omega) k hk (by omega)
      · rw [h]; exact T.k2 (by omega) i (by omega) (by omega)
    · exact .inl ⟨23 - n, by omega, T.z2 (23 - n) (by omega) h, H.big _ (by omega)⟩
  hP := fun n hn ⟨t, A, V, T⟩ hW S => ⟨_, _, _, tr_step H hn T hW S⟩
theorem TriH.nrm {W e : Nat → Int} {kx : Nat} (H : TriH W e kx) {l : Nat} (hl : l < 24) (hx : l ≠ kx) : Nrm (WN W e (23 - l)) e l := by
  obtain ⟨t, A, V, T⟩ := (H.run.all (23 - l) (by omega)).1
  exact ⟨l, by omega, T.z2 l hl hx, H.big l hl⟩
end Go.Proofs.Ytcombidoaghlbaa
