/- A jump to where the estimate stands (plain law). No program beyond the numbers' names. -/
import Derived.Test.YtgfklheepkgedaaS01
namespace Go.Proofs.Ytgfklheepkgedaa
theorem jp_at (K : Nat → Int) {fr n : Nat} (L : Nat → Int) (hf : 4 ≤ fr) {i : Nat} (hi : i < 24) : jpS K fr L n i = mvS (keepF K) fr L n i := (mv_keep (keep_good K) L n hf).1 i hi
theorem jp_good (K : Nat → Int) (fr n : Nat) (L : Nat → Int) : goodB (jpS K fr L n) = true := keep_good _
end Go.Proofs.Ytgfklheepkgedaa
