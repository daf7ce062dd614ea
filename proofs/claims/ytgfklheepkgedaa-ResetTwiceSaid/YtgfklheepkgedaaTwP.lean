/- A jump to where the estimate stands (plain law). No program beyond the numbers' names. -/
import Derived.Test.YtgfklheepkgedaaS01
namespace Go.Proofs.Ytgfklheepkgedaa
theorem jp_at (K : Nat → Int) {fr n : Nat} (L : Nat → Int) (hf : 4 ≤ fr) {i : Nat} (hi : i < 24) : jpS K fr L n i = mvS (keepF K) fr L n i := (mv_keep (keep_good K) L n hf).1 i hi
theorem jp_good (K : Nat → Int) (fr n : Nat) (L : Nat → Int) : goodB (jpS K fr L n) = true := keep_good _
theorem jp_twice (K : Nat → Int) {fr n : Nat} (L : Nat → Int) (hf : 4 ≤ fr) (hn : fr + n ≤ 24) :
    arrv 24 (jpS (jpS K fr L n) fr L n) = arrv 24 (jpS K fr L n) ∧ ∀ k, k < n → mvD (keepF (jpS K fr L n)) fr L k = 0 := by
  have hA : ∀ i, i < 24 → keepF (jpS K fr L n) i = jpS K fr L n i := (keep_fix (jp_good K fr n L)).1
  have hx : ∀ k, k < n → jpS K fr L n (fr + k) = mvX fr L k := fun k hk => by
    rw [jp_at K L hf (by omega), mvS_at, if_pos (by omega), show fr + k - fr = k by omega]
  refine ⟨arrv_congr fun i hi => ?_, fun k hk => ?_⟩
  · rw [jp_at (jpS K fr L n) L hf hi, mvS_at]
    split
    · next h => rw [← hx (i - fr) (by omega), show fr + (i - fr) = i by omega]
    · exact hA i hi
  · have a := mvX_bd fr L k
    have c := boxF_pos (fr + k)
    unfold mvD
    rw [hA _ (by omega), hx k hk, (sub_plain (by omega) (by omega)).1]
    omega
theorem tw_told {D : Nat → Int} {off n : Nat} (k : Int) (ho : 4 ≤ off) (h : ∀ j, j < n → D j = 0) : arrv 10 (fun i => midF (tdF dl0 k) off n D (0 + i)) = arrv 10 dl0 := arrv_congr fun i hi => by
  rw [Nat.zero_add]
  unfold midF tdF
  split
  · next h2 => rw [h _ (by omega)]; unfold dl0; rw [if_neg (by omega)]
  · first | rfl | rw [if_pos hi]
end Go.Proofs.Ytgfklheepkgedaa
