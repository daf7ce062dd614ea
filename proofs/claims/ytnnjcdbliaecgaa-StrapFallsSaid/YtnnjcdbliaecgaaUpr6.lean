/- A fall of so many steps: how far from gravity's (plain law). No program. -/
import Derived.Test.YtnnjcdbliaecgaaUpr5
namespace Go.Proofs.Ytnnjcdbliaecgaa
def faX (g hf : Int) : Nat → Int | 0 => 0 | n + 1 => faX g hf n + mulV ((n : Int) * g + ((n : Int) * g + g)) hf 30
theorem fa_mul {g hf : Int} {n : Nat} (hn : n ≤ 40) (hg : -1 ≤ g ∧ g ≤ 1052981035) (hh : -1 ≤ hf ∧ hf ≤ 53687093) :
    -100000000000 ≤ (n : Int) * g ∧ (n : Int) * g ≤ 100000000000 ∧ -1073741824 ≤ 2 * (1073741824 * mulV ((n : Int) * g + ((n : Int) * g + g)) hf 30 - (2 * (n : Int) + 1) * (g * hf)) ∧ 2 * (1073741824 * mulV ((n : Int) * g + ((n : Int) * g + g)) hf 30 - (2 * (n : Int) + 1) * (g * hf)) ≤ 1073741824 := by
  have b := mul_bd (x := (n : Int)) (y := g) (X := 40) (Y := 1052981035) (by omega) (by omega)
  have e : ((n : Int) * g + ((n : Int) * g + g)) * hf = (2 * (n : Int) + 1) * (g * hf) := by grind
  have m := ml_small (a := (n : Int) * g + ((n : Int) * g + g)) (b := hf) (X := 300000000000) (Y := 53687093) (by omega) (by omega) (by decide) (by decide) (by decide)
  have r := rsh_err (((n : Int) * g + ((n : Int) * g + g)) * hf)
  rw [← m.1, e] at r
  exact ⟨by omega, by omega, r.1, r.2⟩
theorem fa_bd {g hf : Int} (hg : -1 ≤ g ∧ g ≤ 1052981035) (hh : -1 ≤ hf ∧ hf ≤ 53687093) : ∀ n : Nat, n ≤ 40 →
    -((n : Int) * 1073741824) ≤ 2 * (1073741824 * faX g hf n - (n : Int) * (n : Int) * (g * hf)) ∧ 2 * (1073741824 * faX g hf n - (n : Int) * (n : Int) * (g * hf)) ≤ (n : Int) * 1073741824
  | 0, _ => by simp [faX]
  | n + 1, h => by
    have i := fa_bd hg hh n (by omega)
    have m := fa_mul (n := n) (by omega) hg hh
    simp only [faX]
    rw [show ((n + 1 : Nat) : Int) = (n : Int) + 1 from rfl]
    have e : ((n : Int) + 1) * ((n : Int) + 1) * (g * hf) = (n : Int) * (n : Int) * (g * hf) + (2 * (n : Int) + 1) * (g * hf) := by grind
    rw [e]
    obtain ⟨-, -, m1, m2⟩ := m
    generalize (2 * (n : Int) + 1) * (g * hf) = u at *
    generalize (n : Int) * (n : Int) * (g * hf) = v at *
    generalize mulV ((n : Int) * g + ((n : Int) * g + g)) hf 30 = y at *
    omega
theorem fa_small {g hf : Int} (hg : -1 ≤ g ∧ g ≤ 1052981035) (hh : -1 ≤ hf ∧ hf ≤ 53687093) (n : Nat) (hn : n ≤ 40) : -1000000000000 ≤ faX g hf n ∧ faX g hf n ≤ 1000000000000 := by
  have i := fa_bd hg hh n hn
  have p := mul_bd (x := g) (y := hf) (X := 1052981035) (Y := 53687093) (by omega) (by omega)
  have q := mul_bd (x := (n : Int)) (y := (n : Int)) (X := 40) (Y := 40) (by omega) (by omega)
  have r := mul_bd (x := (n : Int) * (n : Int)) (y := g * hf) (X := 40 * 40) (Y := 1052981035 * 53687093) q p
  generalize (n : Int) * (n : Int) * (g * hf) = v at *
  omega
theorem ml_by0 {a b : Int} (ha : SB a) (hb : SB b) (h : SB (a * b)) : mulV a b 0 = a * b ∧ mulH a b 0 = false := by
  have e : rsh (a * b) 0 = a * b := by
    unfold rsh rdiv
    rw [show (2 : Int) ^ 0 = 1 from rfl]
    have : (2 * (a * b).natAbs + (1 : Int).natAbs) / (2 * (1 : Int).natAbs) = (a * b).natAbs := by
      rw [show (1 : Int).natAbs = 1 from rfl]; omega
    rw [this]
    by_cases h0 : 0 ≤ a * b
    · rw [if_pos (by simp [h0])]; omega
    · rw [if_neg (by simp [h0])]; omega
  unfold mulV mulH
  rw [if_neg (by decide), satV_sb ha, satV_sb hb, satH_sb ha, satH_sb hb, show (0 : Int).toNat = 0 from rfl, e, satV_sb h, satH_sb h]
  exact ⟨rfl, by decide⟩
/-- Behind n steps. -/
theorem fall_err {dt : Int} {n : Nat} (hn : n ≤ 40) (d1 : 1073741 ≤ dt) (d2 : dt ≤ 107374183) :
    mulV dt n 0 = dt * n ∧ mulH dt n 0 = false ∧ mulH 10529810258 (dt * n) 30 = false ∧ mulH (mulV 10529810258 (dt * n) 30) (dt * n) 30 = false ∧
    (-16384 ≤ (n : Int) * mulV 10529810258 dt 30 - mulV 10529810258 (dt * n) 30 ∧ (n : Int) * mulV 10529810258 dt 30 - mulV 10529810258 (dt * n) 30 ≤ 16384) ∧
    (-262144 ≤ faX (mulV 10529810258 dt 30) (mulV dt 536870912 30) n - (mulV (mulV 10529810258 (dt * n) 30) (dt * n) 30).tdiv 2 ∧ faX (mulV 10529810258 dt 30) (mulV dt 536870912 30) n - (mulV (mulV 10529810258 (dt * n) 30) (dt * n) 30).tdiv 2 ≤ 262144) ∧
    (0 ≤ mulV (mulV 10529810258 (dt * n) 30) (dt * n) 30 ∧ mulV (mulV 10529810258 (dt * n) 30) (dt * n) 30 ≤ 1000000000000) ∧ (0 ≤ mulV 10529810258 (dt * n) 30 ∧ mulV 10529810258 (dt * n) 30 ≤ 100000000000) := by
  have ug := up_g (dt := dt) (by omega) (by omega)
  have a := ml_small (a := 10529810258) (b := dt) (X := 10529810258) (Y := 107374183) (by decide) (by omega) (by decide) (by decide) (by decide)
  have b := ml_small (a := dt) (b := 536870912) (X := 107374183) (Y := 536870912) (by omega) (by decide) (by decide) (by decide) (by decide)
  have ra := rsh_err (10529810258 * dt)
  have rb := rsh_err (dt * 536870912)
  rw [← a.1] at ra
  rw [← b.1] at rb
  have fb := fa_bd (g := mulV 10529810258 dt 30) (hf := mulV dt 536870912 30) ⟨ug.2.1, ug.2.2.1⟩ ⟨ug.2.2.2.2.1, ug.2.2.2.2.2⟩ n hn
  obtain ⟨g, hg⟩ : ∃ x, mulV 10529810258 dt 30 = x := ⟨_, rfl⟩
  obtain ⟨hf, hhf⟩ : ∃ x, mulV dt 536870912 30 = x := ⟨_, rfl⟩
  rw [hg] at ra fb ug ⊢
  rw [hhf] at rb fb ug ⊢
  obtain ⟨N, hN⟩ : ∃ N : Int, (n : Int) = N := ⟨_, rfl⟩
  have n0 : 0 ≤ N ∧ N ≤ 40 := by omega
  rw [hN] at fb ⊢
  have tb := mul_bd (x := dt) (y := N) (X := 107374183) (Y := 40) (by omega) (by omega)
  have t0 : 0 ≤ dt * N := Int.mul_nonneg (by omega) n0.1
  have m0 := ml_by0 (a := dt) (b := N) (by unfold SB; omega) (by unfold SB; omega) (by unfold SB; omega)
  have c := ml_small (a := 10529810258) (b := dt * N) (X := 10529810258) (Y := 4294967320) (by decide) (by omega) (by decide) (by decide) (by decide)
  have rc := rsh_err (10529810258 * (dt * N))
  rw [← c.1] at rc
  obtain ⟨m1, hm1⟩ : ∃ x, mulV 10529810258 (dt * N) 30 = x := ⟨_, rfl⟩
  rw [hm1] at c rc ⊢
  have m1b : 0 ≤ m1 ∧ m1 ≤ 43000000000 := by omega
  have d := ml_small (a := m1) (b := dt * N) (X := 43000000000) (Y := 4294967320) (by omega) (by omega) (by decide) (by decide) (by decide)
  have rd := rsh_err (m1 * (dt * N))
  rw [← d.1] at rd
  obtain ⟨m2, hm2⟩ : ∃ x, mulV m1 (dt * N) 30 = x := ⟨_, rfl⟩
  rw [hm2] at d rd ⊢
  have p0 : 0 ≤ m1 * (dt * N) := Int.mul_nonneg m1b.1 t0
  -- how far m1 is from N g
  obtain ⟨e, he⟩ : ∃ e, 2 * (1073741824 * g - 10529810258 * dt) = e := ⟨_, rfl⟩
  have ne := mul_bd (x := N) (y := e) (X := 40) (Y := 1073741824) (by omega) (by omega)
  have ne2 : 2 * (1073741824 * (N * g)) - 2 * (10529810258 * (dt * N)) = N * e := by rw [← he]; grind
  obtain ⟨q, hq⟩ : ∃ q, m1 - N * g = q := ⟨_, rfl⟩
  have qb : -21 ≤ q ∧ q ≤ 21 := by omega
  -- dt = 2 hf + r
  obtain ⟨r, hr⟩ : ∃ r, dt - 2 * hf = r := ⟨_, rfl⟩
  have rbd : -1 ≤ r ∧ r ≤ 1 := by omega
  have id : m1 * (dt * N) = 2 * (N * N * (g * hf)) + N * N * (g * r) + 2 * (q * (hf * N)) + q * (r * N) := by
    have h1 : m1 = N * g + q := by omega
    have h2 : dt = 2 * hf + r := by omega
    rw [h1, h2]; grind
  have b1 := mul_bd (x := g) (y := r) (X := 1052981035) (Y := 1) (by omega) (by omega)
  have b2 := mul_bd (x := N) (y := N) (X := 40) (Y := 40) (by omega) (by omega)
  have b3 := mul_bd (x := N * N) (y := g * r) (X := 40 * 40) (Y := 1052981035 * 1) b2 b1
  have b4 := mul_bd (x := hf) (y := N) (X := 53687093) (Y := 40) (by omega) (by omega)
  have b5 := mul_bd (x := q) (y := hf * N) (X := 21) (Y := 53687093 * 40) (by omega) b4
  have b6 := mul_bd (x := r) (y := N) (X := 1) (Y := 40) (by omega) (by omega)
  have b7 := mul_bd (x := q) (y := r * N) (X := 21) (Y := 1 * 40) (by omega) b6
  have m2b : 0 ≤ m2 ∧ m2 ≤ 1000000000000 := by
    have pb := mul_bd (x := m1) (y := dt * N) (X := 43000000000) (Y := 4294967320) (by omega) (by omega)
    omega
  have tv : m2.tdiv 2 = m2 / 2 := Int.tdiv_eq_ediv_of_nonneg m2b.1
  refine ⟨m0.1, m0.2, c.2.1, d.2.1, by omega, ?_, m2b, by omega⟩
  rw [tv]
  rw [id] at rd
  generalize N * N * (g * hf) = u at *
  generalize N * N * (g * r) = v at *
  generalize q * (hf * N) = y at *
  generalize q * (r * N) = z at *
  generalize faX g hf n = f at *
  have nq : N * 1073741824 ≤ 42949672960 := by omega
  omega
end Go.Proofs.Ytnnjcdbliaecgaa
