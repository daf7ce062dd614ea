/- Place by velocity: the roundings stay small (plain law, 5). No program. -/
import Derived.Test.YtomcniampdpnhaaMoveK
namespace Go.Proofs.Ytomcniampdpnhaa
theorem rdiv_err {x d : Int} (hd : 0 < d) : -d ≤ 2 * (d * rdiv x d - x) ∧ 2 * (d * rdiv x d - x) ≤ d := by
  have key : ∀ n k : Nat, 0 < k → -(k : Int) ≤ 2 * ((k : Int) * (((2 * n + k) / (2 * k) : Nat) : Int) - n) ∧ 2 * ((k : Int) * (((2 * n + k) / (2 * k) : Nat) : Int) - n) ≤ k := by
    intro n k hk
    have h1 := Nat.div_add_mod (2 * n + k) (2 * k)
    have h2 := Nat.mod_lt (2 * n + k) (show 0 < 2 * k by omega)
    generalize (2 * n + k) / (2 * k) = q at *
    generalize (2 * n + k) % (2 * k) = r at *
    have h3 : ((2 * k * q + r : Nat) : Int) = ((2 * n + k : Nat) : Int) := by rw [h1]
    rw [Int.natCast_add, Int.natCast_mul, Int.natCast_mul, Int.natCast_add, Int.natCast_mul, Int.mul_assoc] at h3
    generalize (k : Int) * (q : Int) = z at *
    omega
  have hk : (d.natAbs : Int) = d := by omega
  have h := key x.natAbs d.natAbs (by omega)
  rw [hk] at h
  unfold rdiv
  by_cases hx : 0 ≤ x
  · rw [if_pos (by simp [hx, hd])]
    rw [show (x.natAbs : Int) = x by omega] at h
    exact h
  · rw [if_neg (by simp [hx, hd])]
    rw [show (x.natAbs : Int) = -x by omega] at h
    rw [Int.mul_neg]
    generalize d * (((2 * x.natAbs + d.natAbs) / (2 * d.natAbs) : Nat) : Int) = z at *
    omega
theorem rsh_err (x : Int) : -1073741824 ≤ 2 * (1073741824 * rsh x 30 - x) ∧ 2 * (1073741824 * rsh x 30 - x) ≤ 1073741824 := by
  have h2 : ((2 : Int) ^ 30) = 1073741824 := by decide
  unfold rsh; rw [h2]
  exact rdiv_err (by decide)
theorem mul_bd {x y X Y : Int} (hx : -X ≤ x ∧ x ≤ X) (hy : -Y ≤ y ∧ y ≤ Y) : -(X * Y) ≤ x * y ∧ x * y ≤ X * Y := by
  have hX : 0 ≤ X := by omega
  have hY : 0 ≤ Y := by omega
  have e : ((x * y).natAbs : Int) ≤ X * Y := by
    rw [Int.natAbs_mul, Int.natCast_mul]
    exact Int.mul_le_mul (by omega) (by omega) (by omega) hX
  generalize X * Y = Z at *
  generalize x * y = z at *
  omega
theorem mulV_of {a b : Int} (ha : SB a) (hb : SB b) (h : SB (rsh (a * b) 30)) : mulV a b 30 = rsh (a * b) 30 ∧ mulH a b 30 = false := by
  unfold mulV mulH
  rw [if_neg (by decide), satV_sb ha, satV_sb hb, show (30 : Int).toNat = 30 from rfl, satV_sb h, satH_sb ha, satH_sb hb, satH_sb h]
  exact ⟨rfl, by decide⟩
theorem divV_of {a b : Int} (ha : SB a) (hb : SB b) (h0 : b ≠ 0) (h : SB (rdiv (a * 1073741824) b)) : divV a b 30 = rdiv (a * 1073741824) b ∧ divH a b 30 = false := by
  have e : (2 : Int) ^ (30 : Int).toNat = 1073741824 := by decide
  unfold divV divH byV byH
  rw [if_neg (by decide), satV_sb ha, satV_sb hb, e, satV_sb h, satH_sb ha, satH_sb hb, satH_sb h, if_neg h0]
  refine ⟨rfl, ?_⟩
  simp; exact h0
theorem mv_id (s t a y D b u w m A B G p Z E1 E2 E3 E4 E5 E6 E7 E8 E9 : Int)
    (h1 : E1 = 2*(s*y - t*a)) (h2 : E2 = 2*(s*D - t*y - s*b)) (h3 : E3 = 2*(D*u - y*s)) (h4 : E4 = 2*(s*m - u*t)) (hw : w = s - m)
    (h5 : E5 = 2*(s*A - w*a)) (h6 : E6 = 2*(s*B - u*b)) (h7 : E7 = 2*(s*G - w*A - u*B)) (h8 : E8 = 2*(s*p - u*D)) (h9 : E9 = 2*(s*Z - s*G - u*p)) :
    8*(s*s*(s*s*(Z - a))) = 4*(s*s*(s*E9 + s*E7 + w*E5 + u*E6 + u*E8)) + 2*(4*(s*s*(u*(E1+E3))) - 2*(s*(u*(u*E2))) - 2*(t*(u*(u*E1))) - 4*(a*(w*(s*E4))) - a*(E4*E4)) := by
  subst h1 h2 h3 h4 hw h5 h6 h7 h8 h9
  grind
theorem mv_st4 {t y b D u : Int} (ht : 0 ≤ t ∧ t ≤ 1073741824) (hb : 1073741824 ≤ b) (hD : b ≤ D)
    (h2 : -1073741824 ≤ 2 * (1073741824 * D - (t * y + 1073741824 * b))) (h3 : 2 * (D * u - y * 1073741824) ≤ D) : 2 * (u * t) ≤ 2 * 1152921504606846976 + 1073741824 := by
  have e1 : 2 * (D * u) * t ≤ (2 * (y * 1073741824) + D) * t := Int.mul_le_mul_of_nonneg_right (by omega) ht.1
  have e2 : D * t ≤ D * 1073741824 := Int.mul_le_mul_of_nonneg_left ht.2 (by omega)
  have e3 : D * (2 * (u * t)) ≤ D * (2 * 1152921504606846976 + 1073741824) := by grind
  exact Int.le_of_mul_le_mul_left e3 (by omega)
theorem mv_yy {t a y b D : Int} (ha : 0 ≤ a) (hb : 1073741824 ≤ b) (hy : 0 ≤ y) (hya : y ≤ a)
    (h1 : 2 * (1073741824 * y - t * a) ≤ 1073741824) (h2 : -1073741824 ≤ 2 * (1073741824 * D - (t * y + 1073741824 * b))) : y * y ≤ a * D := by
  have e1 : 2 * (1073741824 * y) * y ≤ (2 * (t * a) + 1073741824) * y := Int.mul_le_mul_of_nonneg_right (by omega) hy
  have e2 : a * (2 * (t * y) + 2 * (1073741824 * b) - 1073741824) ≤ a * (2 * (1073741824 * D)) := Int.mul_le_mul_of_nonneg_left (by omega) ha
  have e3 : a * 1073741824 ≤ a * b := Int.mul_le_mul_of_nonneg_left hb ha
  grind
theorem mv_uy {a y D u : Int} (hD : 0 < D) (hy : 0 ≤ y) (hyy : y * y ≤ a * D) (h3 : 2 * (D * u - y * 1073741824) ≤ D) : 2 * (u * y) ≤ 2 * (a * 1073741824) + y := by
  have e1 : 2 * (D * u) * y ≤ (2 * (y * 1073741824) + D) * y := Int.mul_le_mul_of_nonneg_right (by omega) hy
  have e3 : D * (2 * (u * y)) ≤ D * (2 * (a * 1073741824) + y) := by grind
  exact Int.le_of_mul_le_mul_left e3 hD
theorem mv_uuD {a y D u : Int} (hu : 0 ≤ u) (h : 2 * (u * y) ≤ 2 * (a * 1073741824) + y) (h3 : 2 * (D * u - y * 1073741824) ≤ D) : 2 * (u * (u * D)) ≤ 1073741824 * (2 * (a * 1073741824) + y) + u * D := by
  have e1 : u * (2 * (D * u)) ≤ u * (2 * (y * 1073741824) + D) := Int.mul_le_mul_of_nonneg_left (by omega) hu
  grind
theorem mul_ab {u F k : Int} (hu : 0 ≤ u) (h : -k ≤ F ∧ F ≤ k) : -(u * k) ≤ u * F ∧ u * F ≤ u * k := by
  have h1 := Int.mul_le_mul_of_nonneg_left h.1 hu
  have h2 := Int.mul_le_mul_of_nonneg_left h.2 hu
  rw [Int.mul_neg] at h1
  exact ⟨h1, h2⟩
theorem rsh_nonneg {x : Int} (h : 0 ≤ x) : 0 ≤ rsh x 30 := by
  unfold rsh; exact rdiv_nonneg h (by decide)
/-- The numbers, one behind the other: nothing is clamped, and what the sums of variances come to. -/
theorem mv_nums {t a b : Int} (ht : 0 ≤ t ∧ t ≤ 1073741824) (ha : 1073741824 ≤ a ∧ a ≤ 281474976710656) (hb : 1073741824 ≤ b ∧ b ≤ 281474976710656) :
    mvH7 t a b = false ∧ mvH4 t a b = false ∧ (b ≤ mvD t a b ∧ mvD t a b ≤ 562949953421312) ∧ (0 ≤ mvU t a b ∧ mvU t a b ≤ 281474976710656) ∧ (1 ≤ mvG t a b ∧ mvG t a b ≤ 1125899906842624) ∧
    (0 ≤ mvY t a ∧ mvY t a ≤ a) ∧ mvY t a = rsh (t * a) 30 ∧ mvD t a b = rsh (t * mvY t a + 1073741824 * b) 30 ∧
    (-(mvD t a b) ≤ 2 * (mvD t a b * mvU t a b - mvY t a * 1073741824) ∧ 2 * (mvD t a b * mvU t a b - mvY t a * 1073741824) ≤ mvD t a b) ∧
    SB (rsh (mvU t a b * mvD t a b) 30) ∧ SB (rsh (1073741824 * mvG t a b + mvU t a b * rsh (mvU t a b * mvD t a b) 30) 30) ∧
    -4194304 ≤ rsh (1073741824 * mvG t a b + mvU t a b * rsh (mvU t a b * mvD t a b) 30) 30 - a ∧ rsh (1073741824 * mvG t a b + mvU t a b * rsh (mvU t a b * mvD t a b) 30) 30 - a ≤ 4194304 := by
  have sbt : SB t := by unfold SB; omega
  have sba : SB a := by unfold SB; omega
  have sbb : SB b := by unfold SB; omega
  -- y
  have E1 := rsh_err (t * a)
  have ta0 : 0 ≤ t * a := Int.mul_nonneg ht.1 (by omega)
  have ta1 : t * a ≤ a * 1073741824 := by rw [Int.mul_comm]; exact Int.mul_le_mul_of_nonneg_left ht.2 (by omega)
  have y0 := rsh_nonneg ta0
  have y1 : rsh (t * a) 30 ≤ a := by omega
  have ey := mulV_of sbt sba (by unfold SB; omega)
  have hY : mvY t a = rsh (t * a) 30 := ey.1
  obtain ⟨y, hy⟩ : ∃ y, rsh (t * a) 30 = y := ⟨_, rfl⟩
  rw [hy] at E1 y0 y1 hY
  -- D
  have E2 := rsh_err (t * y + 1073741824 * b)
  have ty0 : 0 ≤ t * y := Int.mul_nonneg ht.1 y0
  have ty1 : t * y ≤ y * 1073741824 := by rw [Int.mul_comm]; exact Int.mul_le_mul_of_nonneg_left ht.2 y0
  have D0 : b ≤ rsh (t * y + 1073741824 * b) 30 := by omega
  have D1 : rsh (t * y + 1073741824 * b) 30 ≤ a + b := by omega
  have sbD : SB (rsh (t * y + 1073741824 * b) 30) := by unfold SB; omega
  have vD := varV_id (a := rsh (t * y + 1073741824 * b) 30) (by omega) (by omega)
  have hD : mvD t a b = rsh (t * mvY t a + 1073741824 * b) 30 := by unfold mvD; rw [hY, satV_sb sbD, vD.1]
  have fD : (satH (rsh (t * mvY t a + 1073741824 * b) 30) || varH (satV (rsh (t * mvY t a + 1073741824 * b) 30))) = false := by rw [hY, satH_sb sbD, satV_sb sbD, vD.2]; rfl
  rw [hY] at hD
  obtain ⟨D, hDD⟩ : ∃ D, rsh (t * y + 1073741824 * b) 30 = D := ⟨_, rfl⟩
  rw [hDD] at E2 D0 D1 sbD vD hD
  -- u
  have E3 := rdiv_err (x := y * 1073741824) (d := D) (by omega)
  have u0 : 0 ≤ rdiv (y * 1073741824) D := rdiv_nonneg (by omega) (by omega)
  have u1 : rdiv (y * 1073741824) D ≤ y := rdiv_le (by omega) (Int.mul_le_mul_of_nonneg_left (by omega) y0) y0
  have eu := divV_of (a := y) (b := D) (by unfold SB; omega) sbD (by omega) (by unfold SB; omega)
  have hU : mvU t a b = rdiv (y * 1073741824) D := by unfold mvU; rw [hY, hD]; exact eu.1
  have fU : divH (mvY t a) (mvD t a b) 30 = false := by rw [hY, hD]; exact eu.2
  obtain ⟨u, hu⟩ : ∃ u, rdiv (y * 1073741824) D = u := ⟨_, rfl⟩
  rw [hu] at E3 u0 u1 hU
  -- m and w
  have ut := mv_st4 ht hb.1 D0 E2.1 E3.2
  have E4 := rsh_err (u * t)
  have m0 := rsh_nonneg (Int.mul_nonneg u0 ht.1)
  have m1 : rsh (u * t) 30 ≤ 1073741825 := by omega
  have sbu : SB u := by unfold SB; omega
  have em := mulV_of sbu sbt (by unfold SB; omega)
  obtain ⟨m, hm⟩ : ∃ m, rsh (u * t) 30 = m := ⟨_, rfl⟩
  rw [hm] at E4 m0 m1 em
  have ew := subV_of (a := 1073741824) (b := m) sb_one (by unfold SB; omega) (by unfold SB; omega)
  have hL : mvL t a b = 1073741824 - m := by unfold mvL; rw [hU, em.1, ew.1]
  obtain ⟨w, hw⟩ : ∃ w, 1073741824 - m = w := ⟨_, rfl⟩
  rw [hw] at hL
  -- A
  have bw : -1073741824 ≤ w ∧ w ≤ 1073741824 := by omega
  have wa := mul_bd (x := w) (y := a) (X := 1073741824) (Y := 281474976710656) bw (by omega)
  have E5 := rsh_err (w * a)
  have eA := mulV_of (a := w) (b := a) (by unfold SB; omega) sba (by unfold SB; omega)
  obtain ⟨A, hA⟩ : ∃ A, rsh (w * a) 30 = A := ⟨_, rfl⟩
  rw [hA] at E5 eA
  -- B
  have ub0 : 0 ≤ u * b := Int.mul_nonneg u0 (by omega)
  have ubD : u * b ≤ D * u := by rw [Int.mul_comm D]; exact Int.mul_le_mul_of_nonneg_left D0 u0
  have E6 := rsh_err (u * b)
  have B0 := rsh_nonneg ub0
  have eB := mulV_of (a := u) (b := b) sbu sbb (by unfold SB; omega)
  obtain ⟨B, hB⟩ : ∃ B, rsh (u * b) 30 = B := ⟨_, rfl⟩
  rw [hB] at E6 B0 eB
  -- the sums
  have hyy := mv_yy (by omega) hb.1 y0 y1 E1.2 E2.1
  have huy := mv_uy (by omega) y0 hyy E3.2
  have huuD := mv_uuD u0 huy E3.2
  have uuD0 : 0 ≤ u * (u * D) := Int.mul_nonneg u0 (Int.mul_nonneg u0 (by omega))
  have uub : u * (u * b) ≤ u * (u * D) := Int.mul_le_mul_of_nonneg_left (Int.mul_le_mul_of_nonneg_left D0 u0) u0
  have uB0 : 0 ≤ u * B := Int.mul_nonneg u0 B0
  have uB1 : 2 * (1073741824 * (u * B)) ≤ 2 * (u * (u * b)) + u * 1073741824 := by
    have := Int.mul_le_mul_of_nonneg_left (show 2 * (1073741824 * B) ≤ 2 * (u * b) + 1073741824 by omega) u0
    grind
  have eD : D * u = u * D := Int.mul_comm _ _
  rw [eD] at E3 ubD
  have wA0 : 0 ≤ w * A := by
    rcases Int.le_total 0 w with h | h
    · have h0 : 0 ≤ w * a := Int.mul_nonneg h (by omega)
      have := rsh_nonneg h0
      rw [hA] at this
      exact Int.mul_nonneg h this
    · have h0 : w * a ≤ 0 := Int.mul_nonpos_of_nonpos_of_nonneg h (by omega)
      have h1 : rsh (w * a) 30 ≤ 0 := by unfold rsh; exact rdiv_nonpos h0 (by decide)
      rw [hA] at h1
      exact Int.mul_nonneg_of_nonpos_of_nonpos h h1
  have wA1 := mul_bd (x := w) (y := A) (X := 1073741824) (Y := 281474976710656) bw (by omega)
  have hS : mvS t a b = w * A + u * B := by
    unfold mvS
    rw [hL, hU, eA.1, mulV_negl, eB.1]; grind
  have S1 : 1073741824 ≤ w * A + u * B := by
    rcases Int.lt_or_le w 536870912 with h | h
    · have hu2 : 536870911 ≤ u := by
        have h1 : u * t ≤ u * 1073741824 := Int.mul_le_mul_of_nonneg_left ht.2 u0
        omega
      have h2 : u * 1073741824 ≤ u * b := Int.mul_le_mul_of_nonneg_left hb.1 u0
      have hB2 : 536870910 ≤ B := by omega
      have := Int.mul_le_mul hu2 hB2 (by decide) u0
      omega
    · have h2 : w * 1073741824 ≤ w * a := Int.mul_le_mul_of_nonneg_left ha.1 (by omega)
      have hA2 : 536870911 ≤ A := by omega
      have := Int.mul_le_mul h hA2 (by decide) (by omega)
      omega
  have E7 := rsh_err (w * A + u * B)
  have sbG : SB (rsh (w * A + u * B) 30) := by unfold SB; omega
  have vG := varV_id (a := rsh (w * A + u * B) 30) (by omega) (by omega)
  have hG : mvG t a b = rsh (w * A + u * B) 30 := by unfold mvG; rw [hS, satV_sb sbG, vG.1]
  have G1 : 1 ≤ rsh (w * A + u * B) 30 ∧ rsh (w * A + u * B) 30 ≤ 1125899906842624 := by omega
  -- p
  have uD0 : 0 ≤ u * D := Int.mul_nonneg u0 (by omega)
  have E8 := rsh_err (u * D)
  have p0 := rsh_nonneg uD0
  have sbp : SB (rsh (u * D) 30) := by unfold SB; omega
  obtain ⟨G, hGG⟩ : ∃ G, rsh (w * A + u * B) 30 = G := ⟨_, rfl⟩
  rw [hGG] at E7 sbG vG hG G1
  obtain ⟨p, hp⟩ : ∃ p, rsh (u * D) 30 = p := ⟨_, rfl⟩
  rw [hp] at E8 p0 sbp
  have up0 : 0 ≤ u * p := Int.mul_nonneg u0 p0
  have up1 : 2 * (1073741824 * (u * p)) ≤ 2 * (u * (u * D)) + u * 1073741824 := by
    have := Int.mul_le_mul_of_nonneg_left (show 2 * (1073741824 * p) ≤ 2 * (u * D) + 1073741824 by omega) u0
    grind
  have E9 := rsh_err (1073741824 * G + u * p)
  have fl7 : mvH7 t a b = false := by
    unfold mvH7
    rw [fD, fU, hU, em.1, em.2, ew.2, show mulH t a 30 = false from ey.2]; rfl
  have fl4 : mvH4 t a b = false := by
    unfold mvH4
    rw [hL, hU, hS, eA.2, mulH_negl, eB.2, hGG, satV_sb sbG, satH_sb sbG, vG.2]; rfl
  have bZ : SB (rsh (1073741824 * G + u * p) 30) := by unfold SB; omega
  rw [hG, hD, hU, hp, hY]
  obtain ⟨Z, hZ⟩ : ∃ Z, rsh (1073741824 * G + u * p) 30 = Z := ⟨_, rfl⟩
  rw [hZ] at E9 bZ ⊢
  refine ⟨fl7, fl4, ⟨D0, by omega⟩, ⟨u0, by omega⟩, G1, ⟨y0, y1⟩, hy.symm, hDD.symm, by rw [eD]; exact ⟨E3.1, E3.2⟩, sbp, bZ, ?_⟩
  -- the roundings together
  have ID := mv_id 1073741824 t a y D b u w m A B G p Z _ _ _ _ _ _ _ _ _ rfl rfl rfl rfl hw.symm rfl rfl rfl rfl rfl
  have e3 : 2 * (D * u - y * 1073741824) = 2 * (u * D - y * 1073741824) := by rw [eD]
  rw [e3] at ID
  have x2 : 2 * (1073741824 * D - t * y - 1073741824 * b) = 2 * (1073741824 * D - (t * y + 1073741824 * b)) := by omega
  have x7 : 2 * (1073741824 * G - w * A - u * B) = 2 * (1073741824 * G - (w * A + u * B)) := by omega
  have x9 : 2 * (1073741824 * Z - 1073741824 * G - u * p) = 2 * (1073741824 * Z - (1073741824 * G + u * p)) := by omega
  rw [x2, x7, x9] at ID
  generalize 2 * (1073741824 * y - t * a) = F1 at *
  generalize 2 * (1073741824 * D - (t * y + 1073741824 * b)) = F2 at *
  generalize 2 * (u * D - y * 1073741824) = F3 at *
  generalize 2 * (1073741824 * m - u * t) = F4 at *
  generalize 2 * (1073741824 * A - w * a) = F5 at *
  generalize 2 * (1073741824 * B - u * b) = F6 at *
  generalize 2 * (1073741824 * G - (w * A + u * B)) = F7 at *
  generalize 2 * (1073741824 * p - u * D) = F8 at *
  generalize 2 * (1073741824 * Z - (1073741824 * G + u * p)) = F9 at *
  have ID2 : 8 * 1329227995784915872903807060280344576 * (Z - a) = 4 * 1152921504606846976 * (1073741824 * F9 + 1073741824 * F7 + w * F5 + u * F6 + u * F8) + 8 * 1152921504606846976 * (u * F1 + u * F3) - 4 * 1073741824 * (u * (u * F2)) - 4 * (t * (u * (u * F1))) - 8 * 1073741824 * (a * (w * F4)) - 2 * (a * (F4 * F4)) := by grind
  clear ID
  have k5 := mul_bd bw E5
  have k6 := mul_ab u0 E6
  have k8 := mul_ab u0 E8
  have k1 := mul_ab u0 E1
  have k3 := mul_ab u0 E3
  have k2 := mul_ab u0 (mul_ab u0 E2)
  have k11 := mul_bd (x := t) (y := u * (u * F1)) (X := 1073741824) (Y := u * (u * 1073741824)) (by omega) (mul_ab u0 (mul_ab u0 E1))
  have k4 := mul_ab (show 0 ≤ a by omega) (mul_bd bw E4)
  have k44 := mul_ab (show 0 ≤ a by omega) (mul_bd E4 E4)
  have hU2 : u * (u * 1073741824) ≤ u * (u * D) := Int.mul_le_mul_of_nonneg_left (Int.mul_le_mul_of_nonneg_left (by omega) u0) u0
  generalize w * F5 = X5 at *
  generalize u * F6 = X6 at *
  generalize u * F8 = X8 at *
  generalize u * F1 = X1 at *
  generalize u * F3 = X3 at *
  generalize t * (u * X1) = X11 at *
  generalize u * (u * F2) = X2 at *
  generalize a * (w * F4) = X4 at *
  generalize a * (F4 * F4) = X44 at *
  generalize u * (u * 1073741824) = U2 at *
  generalize u * (u * D) = UUD at *
  generalize u * D = UD at *
  omega
end Go.Proofs.Ytomcniampdpnhaa
