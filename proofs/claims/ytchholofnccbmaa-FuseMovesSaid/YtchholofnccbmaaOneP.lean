/- BiermanOne: the plain law. -/
import Derived.Test.YtchholofnccbmaaQ11
import Derived.Test.YtchholofnccbmaaQ09
namespace Go.Proofs.Ytchholofnccbmaa
def onP (k : Nat) (d : Int) : Nat → Int := upd (newF 0 (fun _ => 0)) (276 + k) d
theorem onP_D {k : Nat} {d : Int} (i : Nat) : onP k d (276 + i) = if i = k then d else 1 := by
  unfold onP Go.Proofs.Ytchholofnccbmaa.upd
  by_cases h : i = k
  · rw [if_pos (by omega), if_pos h]
  · rw [if_neg (by omega), if_neg h]; unfold newF; rw [if_neg (by omega), if_neg (by omega)]
theorem onP_U {k : Nat} {d : Int} {x : Nat} (hx : x < 276) : onP k d x = 0 := by
  unfold onP Go.Proofs.Ytchholofnccbmaa.upd; rw [if_neg (by omega)]; unfold newF; rw [if_pos hx]
theorem onP_diag {k : Nat} {d : Int} (hd : 1048576 ≤ d ∧ d ≤ 36028797018963968) : DiagF (onP k d) := by
  refine ⟨fun x hx => onP_U hx, fun i _ => ?_⟩
  rw [onP_D]; split <;> omega
theorem newH_0 : newH 0 (fun _ => 0) = false := by decide
theorem pkS_1 {k : Nat} (hk : k < 24) : pkS (fun _ => (k : Int)) 1 = pkF k := by
  unfold pkS; rw [if_pos (by omega)]
  funext i; unfold pkS pkF Go.Proofs.Ytchholofnccbmaa.upd
  rw [Int.toNat_natCast]
theorem one_law {k : Nat} {d r : Int} (hk : k < 24) (hd : 1048576 ≤ d ∧ d ≤ 36028797018963968) (hr : 1048576 ≤ r ∧ r ≤ 36028797018963968) :
    (∀ x, x < 276 → updP (onP k d) (pkF k) r x = onP k d x) ∧ (∀ i, i < 24 → updP (onP k d) (pkF k) r (276 + i) = if i = k then mdivV d r (d + r) else onP k d (276 + i)) ∧
    (∀ i, i < 24 → updG (onP k d) (pkF k) r i = if i = k then divV d (d + r) 30 else 0) ∧ updS (onP k d) (pkF k) r = d + r ∧ updH (onP k d) (pkF k) r = false ∧
    mdivH d r (d + r) = false ∧ divH d (d + r) 30 = false := by
  have e : onP k d (276 + k) = d := by rw [onP_D, if_pos rfl]
  obtain ⟨h1, h2, h3, h4, _, h6⟩ := upd_one (onP_diag (k := k) hd) hk (r := r) (by omega) (by rw [e]; omega)
  rw [e] at h2 h3 h4
  have hs : satV (d + r) = d + r := satV_id (by omega) (by omega)
  have x1 : 0 ≤ rdiv (d * r) (d + r) := rdiv_nonneg (Int.mul_nonneg (by omega) (by omega)) (by omega)
  have x2 : rdiv (d * r) (d + r) ≤ d := rdiv_le (by omega) (Int.mul_le_mul_of_nonneg_left (by omega) (by omega)) (by omega)
  refine ⟨fun x hx => by rw [h1 x hx, onP_U hx], h2, h3, h4, h6 hr.1, ?_, ?_⟩
  · unfold mdivH byH
    rw [hs, satV_id (a := d) (by omega) (by omega), satV_id (a := r) (by omega) (by omega), satH_no (a := d) (by omega) (by omega), satH_no (a := r) (by omega) (by omega), satH_no (a := d + r) (by omega) (by omega), satH_no (by omega) (by omega)]
    simp; omega
  · unfold divH byH
    have h30 : (2 : Int) ^ (30 : Int).toNat = 1073741824 := by decide
    rw [hs, satV_id (a := d) (by omega) (by omega), satH_no (a := d) (by omega) (by omega), satH_no (a := d + r) (by omega) (by omega), h30]
    have hb := rdiv_abs_le (x := d * 1073741824) (d := d + r) (m := 1073741824) (by omega) (by omega) (by omega) (by decide)
    rw [satH_no (by omega) (by omega)]
    simp; omega
end Go.Proofs.Ytchholofnccbmaa
