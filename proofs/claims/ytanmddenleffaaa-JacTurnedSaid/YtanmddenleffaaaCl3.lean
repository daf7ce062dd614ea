/- One elimination: what is left of the weighted products of rows. No program. -/
import Derived.Test.YtanmddenleffaaaCl2
namespace Go.Proofs.Ytanmddenleffaaa
theorem sg_wt {e : Nat → Int} (he : WtB e) : 0 ≤ sg e 48 ∧ sg e 48 ≤ 1056000000000000 := by
  refine ⟨sg_nonneg fun k hk => (he k hk).1, ?_⟩
  have h := sg_le (f := e) (g := fun _ => 22000000000000) (n := 48) fun k hk => (he k hk).2
  rw [sg_const] at h
  exact Int.le_trans h (by decide)
/-- Roundings times a row: by the row's square and the weights. -/
theorem rnd_row {e ρ b : Nat → Int} (he : WtB e) (hρ : ∀ k, k < 48 → 2 * ab (ρ k) ≤ 1073741824) : 4 * ab (sg (fun k => ρ k * b k * e k) 48) ≤ gr b b e + 1152921504606846976 * sg e 48 := by
  have h1 : ∀ k, k < 48 → -(b k * b k * e k + 1152921504606846976 * e k) ≤ 4 * (ρ k * b k * e k) ∧ 4 * (ρ k * b k * e k) ≤ b k * b k * e k + 1152921504606846976 * e k := by
    intro k hk
    have e0 := (he k hk).1
    have q := hρ k hk
    have p1 : ab (ρ k * b k) ≤ 536870912 * ab (b k) := by rw [ab_mul]; exact Int.mul_le_mul_of_nonneg_right (by omega) (ab_bd _).1
    have p2 := sq_nn (ab (b k) - 1073741824)
    have p3 : ab (b k) * ab (b k) = b k * b k := by
      rcases (show ab (b k) = b k ∨ ab (b k) = -(b k) by unfold ab; omega) with h | h <;> rw [h]
      exact Int.neg_mul_neg _ _
    have p4 : 4 * ab (ρ k * b k) ≤ b k * b k + 1152921504606846976 := by
      have : (ab (b k) - 1073741824) * (ab (b k) - 1073741824) = ab (b k) * ab (b k) - 2147483648 * ab (b k) + 1152921504606846976 := by grind
      omega
    have p5 := Int.mul_le_mul_of_nonneg_right p4 e0
    have p6 : ab (ρ k * b k * e k) = ab (ρ k * b k) * e k := by rw [ab_mul (ρ k * b k)]; congr 1; unfold ab; omega
    have p7 : 4 * ab (ρ k * b k * e k) ≤ b k * b k * e k + 1152921504606846976 * e k := by rw [p6]; rw [Int.mul_assoc, Int.add_mul] at p5; exact p5
    have := ab_bd (ρ k * b k * e k)
    omega
  have h2 := sg_abs h1
  rw [sg_mul, sg_add, sg_mul] at h2
  have : gr b b e = sg (fun k => b k * b k * e k) 48 := rfl
  unfold ab
  omega
theorem rnd_rnd {e ρ σ : Nat → Int} (he : WtB e) (hρ : ∀ k, k < 48 → 2 * ab (ρ k) ≤ 1073741824) (hσ : ∀ k, k < 48 → 2 * ab (σ k) ≤ 1073741824) : ab (sg (fun k => ρ k * σ k * e k) 48) ≤ 288230376151711744 * sg e 48 := by
  have h1 : ∀ k, k < 48 → ab (ρ k * σ k) ≤ 288230376151711744 := fun k hk => by
    rw [ab_mul]
    have a := hρ k hk
    have b := hσ k hk
    exact Int.le_trans (Int.mul_le_mul (show ab (ρ k) ≤ 536870912 by omega) (show ab (σ k) ≤ 536870912 by omega) (ab_bd _).1 (by decide)) (by decide)
  have h2 := sg_bd (y := e) h1
  rwa [show sg (fun k => ab (e k)) 48 = sg e 48 from sg_congr fun k hk => by have := (he k hk).1; unfold ab; omega] at h2
theorem ab_mul2 {u x U X : Int} (hu : ab u ≤ U) (hx : 2 * ab x ≤ X) : 2 * ab (u * x) ≤ U * X := by
  have h0 := (ab_bd u).1
  have h1 := (ab_bd x).1
  have h2 := Int.mul_le_mul hu hx (by omega) (by omega)
  rw [ab_mul]
  have : ab u * (2 * ab x) = 2 * (ab u * ab x) := by grind
  omega
section
variable {W e : Nat → Int} {j : Nat} (he : WtB e) (hW : RwB W e j) (hd : ∃ k, k < 48 ∧ W (j * 48 + k) = 1073741824 ∧ 17179869184 ≤ e k)
/-- What is taken away from row i. -/
def tkR (W e : Nat → Int) (j i : Nat) : Nat → Int := fun k => rsh (stU W e j i * W (j * 48 + k)) 30
def lfR (W e : Nat → Int) (j i : Nat) : Nat → Int := fun k => rowF 48 W i k - tkR W e j i k
include he hW hd in
theorem pair_raw {i l : Nat} (hi : i < j) (hl : l < j) : ∃ Z1 Z2 Z3 X1 X2 X3 : Int,
    1073741824 * 1073741824 * (gr (lfR W e j i) (lfR W e j l) e - gr (rowF 48 W i) (rowF 48 W l) e + stU W e j i * stU W e j l * stD W e j) = 1073741824 * X1 + 1073741824 * X2 - X3 - 1073741824 * Z1 - 1073741824 * Z2 - Z3 ∧
    2 * ab X1 ≤ 56908316672 * 122782681640000000000000 ∧ 2 * ab X2 ≤ 56908316672 * 122782681640000000000000 ∧ 2 * ab X3 ≤ 3238556506440633155584 * 75559016647418930266112 ∧
    4 * ab Z1 ≤ gr (lfR W e j l) (lfR W e j l) e + 1217485108864830406656000000000000 ∧ 4 * ab Z2 ≤ gr (lfR W e j i) (lfR W e j i) e + 1217485108864830406656000000000000 ∧ ab Z3 ≤ 304371277216207601664000000000000 := by
  have ⟨hv, d0, d1, _⟩ := st_d he hW hd
  have hu := st_u he hW hd hi
  have ht := st_u he hW hd hl
  obtain ⟨E0, E1⟩ := sg_wt he
  have hρ : ∀ i k, 2 * ab (1073741824 * tkR W e j i k - stU W e j i * rowF 48 W j k) ≤ 1073741824 := fun i k => rsh_two _
  have core := el_core (a := rowF 48 W i) (b := rowF 48 W l) (v := rowF 48 W j) (e := e) (r := tkR W e j i) (s := tkR W e j l) (ρ := fun k => 1073741824 * tkR W e j i k - stU W e j i * rowF 48 W j k) (σ := fun k => 1073741824 * tkR W e j l k - stU W e j l * rowF 48 W j k)
    (O := 1073741824) (u := stU W e j i) (t := stU W e j l) (d := stD W e j) (εa := 1073741824 * stD W e j * stU W e j i - gr (rowF 48 W i) (rowF 48 W j) e) (εb := 1073741824 * stD W e j * stU W e j l - gr (rowF 48 W l) (rowF 48 W j) e) (εv := 1073741824 * 1073741824 * stD W e j - gr (rowF 48 W j) (rowF 48 W j) e)
    (fun k _ => by omega) (fun k _ => by omega) (by omega) (by omega) (by omega)
  have z1 := rnd_row (b := fun k => rowF 48 W l k - tkR W e j l k) he fun k _ => hρ i k
  have z2 := rnd_row (b := fun k => rowF 48 W i k - tkR W e j i k) he fun k _ => hρ l k
  have z3 := rnd_rnd he (fun k _ => hρ i k) fun k _ => hρ l k
  have x1 := ab_mul2 hu.2.1 (show 2 * ab (1073741824 * stD W e j * stU W e j l - gr (rowF 48 W l) (rowF 48 W j) e) ≤ 122782681640000000000000 by omega)
  have x2 := ab_mul2 ht.2.1 (show 2 * ab (1073741824 * stD W e j * stU W e j i - gr (rowF 48 W i) (rowF 48 W j) e) ≤ 122782681640000000000000 by omega)
  have ut : ab (stU W e j i * stU W e j l) ≤ 3238556506440633155584 := by
    rw [ab_mul]
    exact Int.le_trans (Int.mul_le_mul hu.2.1 ht.2.1 (ab_bd _).1 (by decide)) (by decide)
  have x3 := ab_mul2 ut (show 2 * ab (1073741824 * 1073741824 * stD W e j - gr (rowF 48 W j) (rowF 48 W j) e) ≤ 75559016647418930266112 by rw [show (1073741824 : Int) * 1073741824 = 1152921504606846976 from rfl]; exact hv)
  refine ⟨_, _, _, _, _, _, ?_, x1, x2, x3, Int.le_trans z1 ?_, Int.le_trans z2 ?_, Int.le_trans z3 ?_⟩
  · unfold lfR
    rw [Int.mul_add, Int.mul_sub, core]
    omega
  · unfold lfR; omega
  · unfold lfR; omega
  · omega
include he hW hd in
/-- The squares' sum of what is left of a row is no greater, but for roundings. -/
theorem pair_own {i : Nat} (hi : i < j) : gr (lfR W e j i) (lfR W e j i) e ≤ gr (rowF 48 W i) (rowF 48 W i) e + 116056878683004400771792896 := by
  obtain ⟨Z1, Z2, Z3, X1, X2, X3, h, x1, x2, x3, z1, z2, z3⟩ := pair_raw he hW hd hi hi
  have d0 := (st_d he hW hd).2.1
  have hg := (hW i (Nat.le_of_lt hi)).2
  have g0 := gr_nonneg he (rowF 48 W i)
  have g1 := gr_nonneg he (lfR W e j i)
  have q := Int.mul_nonneg (sq_nn (stU W e j i)) (show 0 ≤ stD W e j by omega)
  generalize stU W e j i * stU W e j i * stD W e j = y at *
  generalize gr (lfR W e j i) (lfR W e j i) e = G' at *
  generalize gr (rowF 48 W i) (rowF 48 W i) e = G at *
  have a1 := ab_bd X1
  have a2 := ab_bd X2
  have a3 := ab_bd X3
  have b1 := ab_bd Z1
  have b2 := ab_bd Z2
  have b3 := ab_bd Z3
  omega
include he hW hd in
theorem pair_two {i l : Nat} (hi : i < j) (hl : l < j) : ab (gr (lfR W e j i) (lfR W e j l) e - gr (rowF 48 W i) (rowF 48 W l) e + stU W e j i * stU W e j l * stD W e j) ≤ 116056878683004400771792896 := by
  obtain ⟨Z1, Z2, Z3, X1, X2, X3, h, x1, x2, x3, z1, z2, z3⟩ := pair_raw he hW hd hi hl
  have o1 := pair_own he hW hd hi
  have o2 := pair_own he hW hd hl
  have hg := (hW i (Nat.le_of_lt hi)).2
  have hg2 := (hW l (Nat.le_of_lt hl)).2
  generalize gr (lfR W e j i) (lfR W e j l) e - gr (rowF 48 W i) (rowF 48 W l) e + stU W e j i * stU W e j l * stD W e j = y at *
  generalize gr (lfR W e j i) (lfR W e j i) e = G' at *
  generalize gr (rowF 48 W i) (rowF 48 W i) e = G at *
  generalize gr (lfR W e j l) (lfR W e j l) e = F' at *
  generalize gr (rowF 48 W l) (rowF 48 W l) e = F at *
  have a1 := ab_bd X1
  have a2 := ab_bd X2
  have a3 := ab_bd X3
  have b1 := ab_bd Z1
  have b2 := ab_bd Z2
  have b3 := ab_bd Z3
  exact le_ab (by omega)
end
end Go.Proofs.Ytanmddenleffaaa
