/- The rotation of a heading sets no flag (plain law). No program. -/
import Derived.Test.YtnnjcdbliaecgaaRes4
import Derived.Test.YtnnjcdbliaecgaaS01
namespace Go.Proofs.Ytnnjcdbliaecgaa
theorem ser_step {z s l B C : Int} (hz : -2684354560 ≤ z ∧ z ≤ 2684354560) (hs : -B ≤ s ∧ s ≤ B) (hl : -1073741824 ≤ l ∧ l ≤ 1073741824) (hB : B ≤ 1000000000000) (hC : 1073741824 * 1073741824 + 2684354560 * B + 1073741824 ≤ 1073741824 * C) (hC2 : C ≤ 1000000000000000) :
    mulH z s 30 = false ∧ addH l (mulV z s 30) = false ∧ (-C ≤ addV l (mulV z s 30) ∧ addV l (mulV z s 30) ≤ C) := by
  have m := ml_big (a := z) (b := s) (X := 2684354560) (Y := B) hz hs (by decide) (by omega) (by omega)
  obtain ⟨p, hp⟩ : ∃ p, mulV z s 30 = p := ⟨_, rfl⟩
  rw [hp] at m ⊢
  have pb : -(C - 1073741824) ≤ p ∧ p ≤ C - 1073741824 := by omega
  refine ⟨m.2.1, ?_⟩
  unfold addH addV
  rw [satV_id (a := l) (by omega) (by omega), satV_id (a := p) (by omega) (by omega), satH_no (a := l) (by omega) (by omega), satH_no (a := p) (by omega) (by omega), satH_no (a := l + p) (by omega) (by omega), satV_id (a := l + p) (by omega) (by omega)]
  exact ⟨rfl, by omega, by omega⟩
theorem ser_sinL {z : Int} (hz : -2684354560 ≤ z ∧ z ≤ 2684354560) : serH z sinL 5 = false ∧ (-174046838969 ≤ serV z sinL 5 ∧ serV z sinL 5 ≤ 174046838969) := by
  have b0 : -1073741824 ≤ serV z sinL 0 ∧ serV z sinL 0 ≤ 1073741824 := by show -1073741824 ≤ sinL 0 ∧ sinL 0 ≤ 1073741824; decide
  have s0 := ser_step (z := z) (s := serV z sinL 0) (l := sinL 1) (B := 1073741824) (C := 3758096387) hz b0 (by decide) (by decide) (by decide) (by decide)
  have b1 : -3758096387 ≤ serV z sinL 1 ∧ serV z sinL 1 ≤ 3758096387 := s0.2.2
  have s1 := ser_step (z := z) (s := serV z sinL 1) (l := sinL 2) (B := 3758096387) (C := 10468982794) hz b1 (by decide) (by decide) (by decide) (by decide)
  have b2 : -10468982794 ≤ serV z sinL 2 ∧ serV z sinL 2 ≤ 10468982794 := s1.2.2
  have s2 := ser_step (z := z) (s := serV z sinL 2) (l := sinL 3) (B := 10468982794) (C := 27246198812) hz b2 (by decide) (by decide) (by decide) (by decide)
  have b3 : -27246198812 ≤ serV z sinL 3 ∧ serV z sinL 3 ≤ 27246198812 := s2.2.2
  have s3 := ser_step (z := z) (s := serV z sinL 3) (l := sinL 4) (B := 27246198812) (C := 69189238857) hz b3 (by decide) (by decide) (by decide) (by decide)
  have b4 : -69189238857 ≤ serV z sinL 4 ∧ serV z sinL 4 ≤ 69189238857 := s3.2.2
  have s4 := ser_step (z := z) (s := serV z sinL 4) (l := sinL 5) (B := 69189238857) (C := 174046838969) hz b4 (by decide) (by decide) (by decide) (by decide)
  have b5 : -174046838969 ≤ serV z sinL 5 ∧ serV z sinL 5 ≤ 174046838969 := s4.2.2
  refine ⟨?_, b5⟩
  simp only [serH]
  rw [s0.1, s0.2.1, s1.1, s1.2.1, s2.1, s2.2.1, s3.1, s3.2.1, s4.1, s4.2.1]
  rfl
theorem ser_cosL {z : Int} (hz : -2684354560 ≤ z ∧ z ≤ 2684354560) : serH z cosL 6 = false ∧ (-436190839249 ≤ serV z cosL 6 ∧ serV z cosL 6 ≤ 436190839249) := by
  have b0 : -1073741824 ≤ serV z cosL 0 ∧ serV z cosL 0 ≤ 1073741824 := by show -1073741824 ≤ cosL 0 ∧ cosL 0 ≤ 1073741824; decide
  have s0 := ser_step (z := z) (s := serV z cosL 0) (l := cosL 1) (B := 1073741824) (C := 3758096387) hz b0 (by decide) (by decide) (by decide) (by decide)
  have b1 : -3758096387 ≤ serV z cosL 1 ∧ serV z cosL 1 ≤ 3758096387 := s0.2.2
  have s1 := ser_step (z := z) (s := serV z cosL 1) (l := cosL 2) (B := 3758096387) (C := 10468982794) hz b1 (by decide) (by decide) (by decide) (by decide)
  have b2 : -10468982794 ≤ serV z cosL 2 ∧ serV z cosL 2 ≤ 10468982794 := s1.2.2
  have s2 := ser_step (z := z) (s := serV z cosL 2) (l := cosL 3) (B := 10468982794) (C := 27246198812) hz b2 (by decide) (by decide) (by decide) (by decide)
  have b3 : -27246198812 ≤ serV z cosL 3 ∧ serV z cosL 3 ≤ 27246198812 := s2.2.2
  have s3 := ser_step (z := z) (s := serV z cosL 3) (l := cosL 4) (B := 27246198812) (C := 69189238857) hz b3 (by decide) (by decide) (by decide) (by decide)
  have b4 : -69189238857 ≤ serV z cosL 4 ∧ serV z cosL 4 ≤ 69189238857 := s3.2.2
  have s4 := ser_step (z := z) (s := serV z cosL 4) (l := cosL 5) (B := 69189238857) (C := 174046838969) hz b4 (by decide) (by decide) (by decide) (by decide)
  have b5 : -174046838969 ≤ serV z cosL 5 ∧ serV z cosL 5 ≤ 174046838969 := s4.2.2
  have s5 := ser_step (z := z) (s := serV z cosL 5) (l := cosL 6) (B := 174046838969) (C := 436190839249) hz b5 (by decide) (by decide) (by decide) (by decide)
  have b6 : -436190839249 ≤ serV z cosL 6 ∧ serV z cosL 6 ≤ 436190839249 := s5.2.2
  refine ⟨?_, b6⟩
  simp only [serH]
  rw [s0.1, s0.2.1, s1.1, s1.2.1, s2.1, s2.2.1, s3.1, s3.2.1, s4.1, s4.2.1, s5.1, s5.2.1]
  rfl
theorem qrt_calm {w : Int} (h : -1686629713 ≤ w ∧ w ≤ 1686629713) : qrtH w = false := by
  have a : 0 ≤ absV w ∧ absV w ≤ 1686629713 := by unfold absV; rw [if_neg (by omega)]; split <;> omega
  have sq : ∀ x : Int, -1686629713 ≤ x ∧ x ≤ 1686629713 → mulH x x 30 = false ∧ -2684354560 ≤ mulV x x 30 ∧ mulV x x 30 ≤ 2684354560 := fun x hx => by
    have m := ml_big (a := x) (b := x) (X := 1686629713) (Y := 1686629713) hx hx (by decide) (by decide) (by decide)
    exact ⟨m.2.1, by omega⟩
  unfold qrtH
  split
  · have m := sq w h
    have s := ser_sinL m.2
    have p := ml_big (a := w) (b := serV (mulV w w 30) sinL 5) (X := 1686629713) (Y := 174046838969) h s.2 (by decide) (by decide) (by decide)
    unfold sn1H
    rw [m.1, s.1, p.2.1]; rfl
  · have m := sq (1686629713 - absV w) (by omega)
    have s := ser_cosL m.2
    unfold cs1H
    rw [m.1, s.1]; rfl
theorem sin_calm {a : Int} (h : -1000000000000 ≤ a ∧ a ≤ 1000000000000) : sinH a = false ∧ -1073741824 ≤ sinV a ∧ sinV a ≤ 1073741824 := by
  have e : satV a = a := satV_id (by omega) (by omega)
  have w := wrpV_bd a
  have f := fldV_bd w.1 w.2
  unfold sinH sinV oneC
  rw [e, qrt_calm f, satH_no (by omega) (by omega)]
  exact ⟨rfl, by omega, by omega⟩
theorem cos_calm {a : Int} : cosH a = false ∧ -1073741824 ≤ cosV a ∧ cosV a ≤ 1073741824 := by
  have w := wrpV_bd a
  unfold cosH cosV
  exact sin_calm (by omega)
theorem fy_calm (a : Int) : fyH a = false ∧ fyV a 1 = 0 ∧ fyV a 2 = 0 ∧ UnitQ (fyV a) := by
  have w := wrpV_bd a
  have m := ml_big (a := wrpV a) (b := 536870912) (X := 3373259426) (Y := 536870912) (by omega) (by decide) (by decide) (by decide) (by decide)
  have fm : -1000000000000 ≤ fyM a ∧ fyM a ≤ 1000000000000 := by unfold fyM; omega
  have s := sin_calm fm
  have c := cos_calm (a := fyM a)
  refine ⟨?_, rs_uni0 rfl (by decide), rs_uni0 rfl (by decide), unit_good _⟩
  unfold fyH
  rw [m.2.1, c.1, s.1, unit_calm _ fun i hi => by
    have := q4_bd (B := 1073741824) c.2 (show -1073741824 ≤ (0 : Int) ∧ (0 : Int) ≤ 1073741824 by decide) (show -1073741824 ≤ (0 : Int) ∧ (0 : Int) ≤ 1073741824 by decide) s.2 i hi
    omega]
  rfl
end Go.Proofs.Ytnnjcdbliaecgaa
