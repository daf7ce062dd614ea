/- So many steps at rest (plain law, 4). No program. -/
import Derived.Test.YtnnjcdbliaecgaaRes3
namespace Go.Proofs.Ytnnjcdbliaecgaa
theorem ml_big {a b X Y : Int} (ha : -X ≤ a ∧ a ≤ X) (hb : -Y ≤ b ∧ b ≤ Y) (hX : X ≤ 1073741824000) (hY : Y ≤ 1073741824000) (hXY : X * Y ≤ 1000000000000000000000000000) :
    mulV a b 30 = rsh (a * b) 30 ∧ mulH a b 30 = false ∧ -(X * Y) - 1073741824 ≤ 1073741824 * mulV a b 30 ∧ 1073741824 * mulV a b 30 ≤ X * Y + 1073741824 := by
  have m := mul_bd ha hb
  have r := rsh_err (a * b)
  have q := mulV_of (a := a) (b := b) (by unfold SB; omega) (by unfold SB; omega) (by unfold SB; omega)
  refine ⟨q.1, q.2, ?_⟩
  rw [q.1]
  omega
/-- Behind k steps. -/
structure RsI (hf : Int) (v : Nat → Int) (k : Nat) (S : Nat → Int) : Prop where
  z1 : S 1 = 0
  z2 : S 2 = 0
  g : goodB S = true
  hi : ∀ i, 10 ≤ i → S i = 0
  v0 : S 4 = v 0
  v1 : S 5 = v 1
  v2 : -(8 * (k : Int)) ≤ S 6 - v 2 ∧ S 6 - v 2 ≤ 8 * (k : Int)
  x : ∀ j, j < 3 → -((k : Int) * 50000000000) ≤ 1073741824 * S (7 + j) - (k : Int) * (2 * v j * hf) ∧ 1073741824 * S (7 + j) - (k : Int) * (2 * v j * hf) ≤ (k : Int) * 50000000000
theorem rs_next {us : Int} {v : Nat → Int} {k : Nat} {S : Nat → Int} (h1 : 1000 ≤ us) (h2 : us ≤ 100000) (hk : k < 50) (hv : ∀ j, j < 3 → -274877906944 ≤ v j ∧ v j ≤ 274877906944)
    (s : RsI (mulV (secV us) 536870912 30) v k S) : ∃ T, stepN S (stlF us) = T ∧ stepH2 S (stlF us) = false ∧ RsI (mulV (secV us) 536870912 30) v (k + 1) T := by
  have sb := sec_bd h1 h2
  have ug := up_g (dt := secV us) (by omega) (by omega)
  obtain ⟨hf, hhf⟩ : ∃ x, mulV (secV us) 536870912 30 = x := ⟨_, rfl⟩
  rw [hhf] at ug s ⊢
  have w0 := hv 0 (by decide)
  have w1 := hv 1 (by decide)
  have w2 := hv 2 (by decide)
  have V : ∀ j, j < 3 → -(8 * (k : Int)) ≤ S (4 + j) - v j ∧ S (4 + j) - v j ≤ 8 * (k : Int) := fun j hj => by
    obtain rfl | rfl | rfl : j = 0 ∨ j = 1 ∨ j = 2 := by omega
    · have := s.v0; rw [show 4 + 0 = 4 from rfl]; omega
    · have := s.v1; rw [show 4 + 1 = 5 from rfl]; omega
    · exact s.v2
  have X : ∀ j, j < 3 → -100000000000000 ≤ S (7 + j) ∧ S (7 + j) ≤ 100000000000000 := fun j hj => by
    have a := s.x j hj
    have b := mul_bd (x := 2 * v j) (y := hf) (X := 549755813888) (Y := 53687093) (by have := hv j hj; omega) (by omega)
    have c := mul_bd (x := (k : Int)) (y := 2 * v j * hf) (X := 50) (Y := 549755813888 * 53687093) (by omega) b
    generalize (k : Int) * (2 * v j * hf) = y at *
    omega
  obtain ⟨T, t1, t2, t3, t4, t5, t6, t7, t8, t9, t10⟩ := lev_step (S := S) h1 h2 s.z1 s.z2 s.g s.hi (fun j hj => by have := V j hj; have := hv j hj; omega) (fun j hj => by have := X j hj; omega)
  rw [hhf] at t10
  refine ⟨T, t1, t2, t3, t4, t5, t6, by rw [t7]; exact s.v0, by rw [t8]; exact s.v1, ?_, fun j hj => ?_⟩
  · have := s.v2
    rw [show ((k + 1 : Nat) : Int) = (k : Int) + 1 from rfl]
    omega
  · have a := s.x j hj
    have vj := V j hj
    have hj' := hv j hj
    have tj : -8 ≤ T (4 + j) - S (4 + j) ∧ T (4 + j) - S (4 + j) ≤ 8 := by
      obtain rfl | rfl | rfl : j = 0 ∨ j = 1 ∨ j = 2 := by omega
      · rw [show 4 + 0 = 4 from rfl, t7]; omega
      · rw [show 4 + 1 = 5 from rfl, t8]; omega
      · exact t9
    have m := ml_small (a := S (4 + j) + T (4 + j)) (b := hf) (X := 800000000000) (Y := 53687093) (by omega) (by omega) (by decide) (by decide) (by decide)
    have r := rsh_err ((S (4 + j) + T (4 + j)) * hf)
    rw [← m.1] at r
    obtain ⟨d, hd⟩ : ∃ d, S (4 + j) + T (4 + j) - 2 * v j = d := ⟨_, rfl⟩
    have db := mul_bd (x := d) (y := hf) (X := 808) (Y := 53687093) (by omega) (by omega)
    have e1 : (S (4 + j) + T (4 + j)) * hf = 2 * v j * hf + d * hf := by rw [← hd]; grind
    rw [e1] at r
    rw [t10 j hj, show ((k + 1 : Nat) : Int) = (k : Int) + 1 from rfl]
    have e2 : ((k : Int) + 1) * (2 * v j * hf) = (k : Int) * (2 * v j * hf) + 2 * v j * hf := by grind
    rw [e2]
    generalize (k : Int) * (2 * v j * hf) = y at *
    generalize 2 * v j * hf = c at *
    generalize d * hf = z at *
    generalize mulV (S (4 + j) + T (4 + j)) hf 30 = q at *
    omega
/-- What the law asks of the end. -/
theorem rs_end {us : Int} {v : Nat → Int} {n : Nat} {S : Nat → Int} (h1 : 1000 ≤ us) (h2 : us ≤ 100000) (hn : n ≤ 50) (hv : ∀ j, j < 3 → -274877906944 ≤ v j ∧ v j ≤ 274877906944)
    (s : RsI (mulV (secV us) 536870912 30) v n S) : ∀ j, j < 3 → (-16384 ≤ S (4 + j) - v j ∧ S (4 + j) - v j ≤ 16384) ∧
      (-65536 ≤ S (7 + j) - mulV (v j) (secV us * n) 30 ∧ S (7 + j) - mulV (v j) (secV us * n) 30 ≤ 65536) ∧ mulH (v j) (secV us * n) 30 = false ∧ mulV (secV us) n 0 = secV us * n ∧ mulH (secV us) n 0 = false := fun j hj => by
  have sb := sec_bd h1 h2
  obtain ⟨dt, hdt⟩ : ∃ x, secV us = x := ⟨_, rfl⟩
  rw [hdt] at sb s ⊢
  have b := ml_small (a := dt) (b := 536870912) (X := 107374183) (Y := 536870912) (by omega) (by decide) (by decide) (by decide) (by decide)
  have rb := rsh_err (dt * 536870912)
  rw [← b.1] at rb
  have ug := up_g (dt := dt) (by omega) (by omega)
  obtain ⟨hf, hhf⟩ : ∃ x, mulV dt 536870912 30 = x := ⟨_, rfl⟩
  rw [hhf] at ug s rb
  have vj := hv j hj
  obtain ⟨N, hN⟩ : ∃ N : Int, (n : Int) = N := ⟨_, rfl⟩
  have n0 : 0 ≤ N ∧ N ≤ 50 := by omega
  have tb := mul_bd (x := dt) (y := N) (X := 107374183) (Y := 50) (by omega) (by omega)
  have x := s.x j hj
  rw [hN] at x ⊢
  have m0 : mulV dt N 0 = dt * N ∧ mulH dt N 0 = false := by
    have e : rsh (dt * N) 0 = dt * N := by
      unfold rsh rdiv
      rw [show (2 : Int) ^ 0 = 1 from rfl]
      have : (2 * (dt * N).natAbs + (1 : Int).natAbs) / (2 * (1 : Int).natAbs) = (dt * N).natAbs := by
        rw [show (1 : Int).natAbs = 1 from rfl]; omega
      rw [this]
      by_cases h0 : 0 ≤ dt * N
      · rw [if_pos (by simp [h0])]; omega
      · rw [if_neg (by simp [h0])]; omega
    unfold mulV mulH
    rw [if_neg (by decide), satV_id (a := dt) (by omega) (by omega), satV_id (a := N) (by omega) (by omega), satH_no (a := dt) (by omega) (by omega), satH_no (a := N) (by omega) (by omega), show (0 : Int).toNat = 0 from rfl, e, satV_id (by omega) (by omega), satH_no (by omega) (by omega)]
    exact ⟨rfl, by decide⟩
  have m := ml_big (a := v j) (b := dt * N) (X := 274877906944) (Y := 5368709150) (by omega) (by omega) (by decide) (by decide) (by decide)
  have r := rsh_err (v j * (dt * N))
  rw [← m.1] at r
  obtain ⟨q, hq⟩ : ∃ q, dt - 2 * hf = q := ⟨_, rfl⟩
  have e : v j * (dt * N) = N * (2 * v j * hf) + v j * (q * N) := by
    have : dt = 2 * hf + q := by omega
    rw [this]; grind
  have b1 := mul_bd (x := q) (y := N) (X := 1) (Y := 50) (by omega) (by omega)
  have b2 := mul_bd (x := v j) (y := q * N) (X := 274877906944) (Y := 1 * 50) vj b1
  rw [e] at r
  refine ⟨?_, ?_, m.2.1, m0⟩
  · obtain rfl | rfl | rfl : j = 0 ∨ j = 1 ∨ j = 2 := by omega
    · have := s.v0; rw [show 4 + 0 = 4 from rfl]; omega
    · have := s.v1; rw [show 4 + 1 = 5 from rfl]; omega
    · have := s.v2; rw [show 4 + 2 = 6 from rfl]; omega
  · generalize N * (2 * v j * hf) = y at *
    generalize v j * (q * N) = z at *
    generalize mulV (v j) (dt * N) 30 = p at *
    omega
end Go.Proofs.Ytnnjcdbliaecgaa
