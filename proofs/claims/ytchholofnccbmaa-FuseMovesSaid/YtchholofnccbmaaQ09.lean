/- Contracts of the program's functions and plain laws, part 9: they hold for all arguments. -/
import Derived.Test.YtchholofnccbmaaQ07
import Derived.Test.YtchholofnccbmaaQ05
import Derived.Deep.Cut
import Derived.Deep.CutRange
import Derived.Laws.StructEq
import Derived.Test.YtchholofnccbmaaQ04
import Derived.Laws.CopyOwn
/- Plain numbers: is a number as near as its gate asks? No program. -/
namespace Go.Proofs.Ytchholofnccbmaa
def likB (y s gate : Int) : Bool := decide (1 ≤ gate) && decide (gate ≤ 1000) && decide (1 ≤ satV s) && decide (satV y * satV y ≤ gate * gate * 65536 * satV s)
theorem absV_sat (a : Int) : satV a * satV a = absV a * absV a ∧ 0 ≤ absV a := by
  unfold satV clampV absV
  by_cases h1 : 1152921504606846976 ≤ a ∨ a ≤ -1152921504606846976
  · rw [if_pos h1]
    rcases h1 with h1 | h1
    · rw [if_neg (by omega), if_neg (by omega)]
      refine ⟨?_, by omega⟩
      split
      · rfl
      · rw [show a = 1152921504606846976 by omega]
    · rw [if_neg (by omega)]
      refine ⟨?_, by omega⟩
      split
      · rfl
      · rw [if_neg (by omega), show a = -1152921504606846976 by omega]; rfl
  · rw [if_neg h1, if_neg (by omega), if_neg (by omega), if_neg (by omega)]
    split
    · exact ⟨by rw [Int.neg_mul_neg], by omega⟩
    · exact ⟨rfl, by omega⟩
/-- What is within a gate is within a wider one, and with a greater variance; nearer numbers are, too. -/
theorem lik_rises {y z s t a b : Int} (hs : 1 ≤ s) (hst : s ≤ t) (ht : t ≤ 1125899906842624) (ha : 1 ≤ a) (hab : a ≤ b) (hb : b ≤ 1000) (hz : absV z ≤ absV y) (h : likB y s a = true) : likB z t b = true := by
  have es : satV s = s := satV_id (by omega) (by omega)
  have et : satV t = t := satV_id (by omega) (by omega)
  obtain ⟨y1, y2⟩ := absV_sat y
  obtain ⟨z1, z2⟩ := absV_sat z
  unfold likB at *
  simp only [Bool.and_eq_true, decide_eq_true_eq] at *
  obtain ⟨⟨⟨_, _⟩, _⟩, h⟩ := h
  refine ⟨⟨⟨by omega, by omega⟩, by omega⟩, ?_⟩
  rw [es, y1] at h
  rw [et, z1]
  have k1 : absV z * absV z ≤ absV y * absV y := Int.mul_le_mul hz hz z2 y2
  have k2 : a * a ≤ b * b := Int.mul_le_mul hab hab (by omega) (by omega)
  have k3 : a * a * 65536 * s ≤ b * b * 65536 * t := Int.mul_le_mul (by omega) hst (by omega) (by have := sq_nonneg b; omega)
  omega
theorem lik_zero {s gate : Int} (h1 : 1 ≤ gate) (h2 : gate ≤ 1000) (hs : 1 ≤ s) : likB 0 s gate = true := by
  have es : 1 ≤ satV s := by unfold satV clampV; rw [if_neg (by decide), if_neg (by omega)]; split <;> omega
  have e0 : satV 0 = 0 := by decide
  unfold likB
  simp only [Bool.and_eq_true, decide_eq_true_eq]
  refine ⟨⟨⟨h1, h2⟩, es⟩, ?_⟩
  rw [e0]
  have : 0 ≤ gate * gate * 65536 * satV s := Int.mul_nonneg (Int.mul_nonneg (Int.mul_nonneg (by omega) (by omega)) (by decide)) (by omega)
  omega
theorem gate_bd {g : Int} (h1 : 1 ≤ g) (h2 : g ≤ 1000) : 1 ≤ g * g ∧ g * g ≤ 1000000 := by
  have a : 1 * 1 ≤ g * g := Int.mul_le_mul h1 h1 (by decide) (by omega)
  have b : g * g ≤ 1000 * 1000 := Int.mul_le_mul h2 h2 (by omega) (by decide)
  omega
theorem lik_bd {g s : Int} (h1 : 1 ≤ g) (h2 : g ≤ 1000) (hs : 1 ≤ satV s) : 0 ≤ g * g * 65536 * satV s ∧ g * g * 65536 * satV s ≤ 75557863725914323419136000000 := by
  obtain ⟨a, b⟩ := gate_bd h1 h2
  have c := (satV_bd s).2
  have e : g * g * 65536 * satV s ≤ 65536000000 * 1152921504606846976 := Int.mul_le_mul (by omega) c (by omega) (by decide)
  refine ⟨Int.mul_nonneg (by omega) (by omega), by omega⟩
end Go.Proofs.Ytchholofnccbmaa
/- Contracts of wide.Cmp and fuse.Likely. -/
namespace Go.Proofs.Ytchholofnccbmaa
open Go.RowKit
set_option maxRecDepth 100000
def cmpV (A B : Int) : Int := if A = B then 0 else if A < B then -1 else 1
theorem cmp_any (A B : Int) (w : World) : Calls Try.prog 23 #[.agg #[.int .i64 (hi64 A), .int .u64 (lo64 A)], .agg #[.int .i64 (hi64 B), .int .u64 (lo64 B)]] w fun e w' => e = .returned (.int .i64 (cmpV A B)) ∧ Below w.heap.size w w' := by
  by_cases h : A = B
  · subst h
    have E := Lib.hid (show cmpV A A = 0 by unfold cmpV; rw [if_pos rfl])
    go_enter Try.func23, Try.ntmps23
    go_wp2_with fail
    go_ret
    exact ⟨by rw [E.out]; rfl, by (repeat (first | with_reducible exact Below.refl _ _ | with_reducible apply Below.drew | (with_reducible refine below_drewN ?_ _) | (with_reducible refine Below.alloc ?_ (by (try simp) <;> omega) _) | (with_reducible refine Below.setCell ?_ (by (try simp) <;> omega) _)))⟩
  · by_cases h1 : hi64 A < hi64 B
    · have E := Lib.hid (show cmpV A B = -1 by unfold cmpV; rw [if_neg h, if_pos (by unfold hi64 at h1; omega)])
      have d1 : (hi64 A == hi64 B) = false := by simp; omega
      have d2 : decide (hi64 A < hi64 B) = true := by simpa using h1
      clear h h1
      go_enter Try.func23, Try.ntmps23
      go_wp2_with fail
      go_ret
      exact ⟨by rw [E.out]; rfl, by (repeat (first | with_reducible exact Below.refl _ _ | with_reducible apply Below.drew | (with_reducible refine below_drewN ?_ _) | (with_reducible refine Below.alloc ?_ (by (try simp) <;> omega) _) | (with_reducible refine Below.setCell ?_ (by (try simp) <;> omega) _)))⟩
    · by_cases h2 : hi64 A = hi64 B
      · have d1 : (hi64 A == hi64 B) = true := by simpa using h2
        have d2 : decide (hi64 A < hi64 B) = false := by simpa using h1
        have d3 : (lo64 A == lo64 B) = false := by simp; intro e; exact h (by have := hilo A; have := hilo B; omega)
        by_cases h3 : lo64 A < lo64 B
        · have E := Lib.hid (show cmpV A B = -1 by unfold cmpV; rw [if_neg h, if_pos (by have := hilo A; have := hilo B; omega)])
          have d4 : decide (lo64 A < lo64 B) = true := by simpa using h3
          clear h h1 h2 h3
          go_enter Try.func23, Try.ntmps23
          go_wp2_with fail
          go_ret
          exact ⟨by rw [E.out]; rfl, by (repeat (first | with_reducible exact Below.refl _ _ | with_reducible apply Below.drew | (with_reducible refine below_drewN ?_ _) | (with_reducible refine Below.alloc ?_ (by (try simp) <;> omega) _) | (with_reducible refine Below.setCell ?_ (by (try simp) <;> omega) _)))⟩
        · have E := Lib.hid (show cmpV A B = 1 by unfold cmpV; rw [if_neg h, if_neg (by have := hilo A; have := hilo B; omega)])
          have d4 : decide (lo64 A < lo64 B) = false := by simpa using h3
          clear h h1 h2 h3
          go_enter Try.func23, Try.ntmps23
          go_wp2_with fail
          go_ret
          exact ⟨by rw [E.out]; rfl, by (repeat (first | with_reducible exact Below.refl _ _ | with_reducible apply Below.drew | (with_reducible refine below_drewN ?_ _) | (with_reducible refine Below.alloc ?_ (by (try simp) <;> omega) _) | (with_reducible refine Below.setCell ?_ (by (try simp) <;> omega) _)))⟩
      · have E := Lib.hid (show cmpV A B = 1 by unfold cmpV; rw [if_neg h, if_neg (by unfold hi64 at h1 h2; omega)])
        have d1 : (hi64 A == hi64 B) = false := by simpa using h2
        have d2 : decide (hi64 A < hi64 B) = false := by simpa using h1
        clear h h1 h2
        go_enter Try.func23, Try.ntmps23
        go_wp2_with fail
        go_ret
        exact ⟨by rw [E.out]; rfl, by (repeat (first | with_reducible exact Below.refl _ _ | with_reducible apply Below.drew | (with_reducible refine below_drewN ?_ _) | (with_reducible refine Below.alloc ?_ (by (try simp) <;> omega) _) | (with_reducible refine Below.setCell ?_ (by (try simp) <;> omega) _)))⟩
set_option maxHeartbeats 1000000 in
theorem likely_any (y s g : Int) (w : World) (_g0 : -9223372036854775808 ≤ g) (_g1 : g ≤ 9223372036854775807) :
    Calls Try.prog 13 #[.int .i64 y, .int .i64 s, .int .i64 g] w fun e w' => e = .returned (.bool (likB y s g)) ∧ Below w.heap.size w w' := by
  have S1 := Lib.hid (sat_any ⟨w.heap.size, 0, none⟩ false y (w.alloc (.cells #[.bool false] 25)) (by simp) (by simp))
  have S2 := Lib.hid (sat_any ⟨w.heap.size, 0, none⟩ (satH y) s (w.alloc (.cells #[.bool (satH y)] 25)) (by simp) (by simp))
  have B2 : Hid (Below w.heap.size w ((w.alloc (.cells #[.bool (satH y)] 25)).setCell ⟨w.heap.size, 0, none⟩ (.bool (satH y || satH s)))) := Lib.hid (by (repeat (first | with_reducible exact Below.refl _ _ | with_reducible apply Below.drew | (with_reducible refine below_drewN ?_ _) | (with_reducible refine Below.alloc ?_ (by (try simp) <;> omega) _) | (with_reducible refine Below.setCell ?_ (by (try simp) <;> omega) _))))
  have sy := satV_bd y
  have ss := satV_bd s
  have HL : Hid (likB y s g = (decide (1 ≤ g) && decide (g ≤ 1000) && decide (1 ≤ satV s) && decide (satV y * satV y ≤ g * g * 65536 * satV s))) := Lib.hid rfl
  have PY := prod_bd y y
  have LB := fun h1 h2 h3 => lik_bd (g := g) (s := s) h1 h2 h3
  have LB := Lib.hid LB
  obtain ⟨Y, hY⟩ : ∃ Y, satV y = Y := ⟨_, rfl⟩
  obtain ⟨S, hS⟩ : ∃ S, satV s = S := ⟨_, rfl⟩
  rw [hY] at S1 sy HL PY
  rw [hS] at S2 ss HL LB
  clear hY hS
  by_cases h1 : g < 1
  · have d1 : decide (g < 1) = true := by simpa using h1
    have E := Lib.hid (show likB y s g = false by rw [HL.out, show decide (1 ≤ g) = false by simp; omega]; rfl)
    go_enter Try.func13, Try.ntmps13
    go_wp2_with fail
    refine S1.out.mono ?_; rintro e w' ⟨rfl, rfl⟩
    go_wp2_with fail
    refine S2.out.mono ?_; rintro e w' ⟨rfl, rfl⟩
    go_wp2_with fail
    go_ret
    exact ⟨by rw [E.out]; rfl, by (repeat (first | with_reducible exact Below.refl _ _ | with_reducible apply Below.drew | (with_reducible refine below_drewN ?_ _) | (with_reducible refine Below.alloc ?_ (by (try simp) <;> omega) _) | (with_reducible refine Below.setCell ?_ (by (try simp) <;> omega) _)))⟩
  · by_cases h2 : 1000 < g
    · have d1 : decide (g < 1) = false := by simpa using h1
      have d2 : decide (1000 < g) = true := by simpa using h2
      have E := Lib.hid (show likB y s g = false by rw [HL.out, show decide (g ≤ 1000) = false by simp; omega]; simp)
      go_enter Try.func13, Try.ntmps13
      go_wp2_with fail
      refine S1.out.mono ?_; rintro e w' ⟨rfl, rfl⟩
      go_wp2_with fail
      refine S2.out.mono ?_; rintro e w' ⟨rfl, rfl⟩
      go_wp2_with fail
      go_ret
      exact ⟨by rw [E.out]; rfl, by (repeat (first | with_reducible exact Below.refl _ _ | with_reducible apply Below.drew | (with_reducible refine below_drewN ?_ _) | (with_reducible refine Below.alloc ?_ (by (try simp) <;> omega) _) | (with_reducible refine Below.setCell ?_ (by (try simp) <;> omega) _)))⟩
    · by_cases h3 : S < 1
      · have d1 : decide (g < 1) = false := by simpa using h1
        have d2 : decide (1000 < g) = false := by simpa using h2
        have d3 : decide (S < 1) = true := by simpa using h3
        have E := Lib.hid (show likB y s g = false by rw [HL.out, show decide (1 ≤ S) = false by simp; omega]; simp)
        go_enter Try.func13, Try.ntmps13
        go_wp2_with fail
        refine S1.out.mono ?_; rintro e w' ⟨rfl, rfl⟩
        go_wp2_with fail
        refine S2.out.mono ?_; rintro e w' ⟨rfl, rfl⟩
        go_wp2_with fail
        go_ret
        exact ⟨by rw [E.out]; rfl, by (repeat (first | with_reducible exact Below.refl _ _ | with_reducible apply Below.drew | (with_reducible refine below_drewN ?_ _) | (with_reducible refine Below.alloc ?_ (by (try simp) <;> omega) _) | (with_reducible refine Below.setCell ?_ (by (try simp) <;> omega) _)))⟩
      · have d1 : decide (g < 1) = false := by simpa using h1
        have d2 : decide (1000 < g) = false := by simpa using h2
        have d3 : decide (S < 1) = false := by simpa using h3
        have gb := gate_bd (g := g) (by omega) (by omega)
        have lb := LB.out (by omega) (by omega) (by omega)
        obtain ⟨Q, hQ⟩ : ∃ Q, g * g = Q := ⟨_, rfl⟩
        rw [hQ] at gb lb
        obtain ⟨G, hG⟩ : ∃ G, Q * 65536 = G := ⟨_, rfl⟩
        rw [hG] at lb
        obtain ⟨M1, hM1⟩ : ∃ M, Y * Y = M := ⟨_, rfl⟩
        obtain ⟨M2, hM2⟩ : ∃ M, G * S = M := ⟨_, rfl⟩
        have e1 : IntKind.i64.wrap (g * g) = Q := by rw [hQ]; exact IntWalk.i64_in _ (by omega)
        have e2 : IntKind.i64.wrap (Q * 65536) = G := by rw [hG]; exact IntWalk.i64_in _ (by omega)
        rw [hM1] at PY
        rw [hM2] at lb
        have A1 := Lib.hid (fun w => mul_any Y Y M1 w (by omega) (by omega) (by omega) (by omega) hM1 (by omega) (by omega))
        have A2 := Lib.hid (fun w => mul_any G S M2 w (by omega) (by omega) (by omega) (by omega) hM2 (by omega) (by omega))
        have A3 := Lib.hid (fun w => cmp_any M1 M2 w)
        have E : Hid (likB y s g = decide (cmpV M1 M2 ≤ 0)) := by
          rw [hQ, hG, hM1, hM2] at HL
          refine Lib.hid (HL.out.trans ?_)
          rw [show decide (1 ≤ g) = true by simp; omega, show decide (g ≤ 1000) = true by simp; omega, show decide (1 ≤ S) = true by simp; omega]
          unfold cmpV
          rw [Bool.eq_iff_iff]
          simp only [Bool.true_and, decide_eq_true_eq]
          split
          · omega
          · split <;> omega
        obtain ⟨C, hC⟩ : ∃ C, cmpV M1 M2 = C := ⟨_, rfl⟩
        rw [hC] at E
        have A3 : Hid (∀ w, Calls Try.prog 23 #[.agg #[.int .i64 (hi64 M1), .int .u64 (lo64 M1)], .agg #[.int .i64 (hi64 M2), .int .u64 (lo64 M2)]] w fun e w' => e = .returned (.int .i64 C) ∧ Below w.heap.size w w') := by rw [← hC]; exact A3
        clear hQ hG hM1 hM2 hC gb lb PY HL LB sy ss
        go_enter Try.func13, Try.ntmps13
        go_wp2_with fail
        refine S1.out.mono ?_; rintro e w' ⟨rfl, rfl⟩
        go_wp2_with fail
        refine S2.out.mono ?_; rintro e w' ⟨rfl, rfl⟩
        generalize (w.alloc (.cells #[.bool (satH y)] 25)).setCell ⟨w.heap.size, 0, none⟩ (.bool (satH y || satH s)) = w2 at *
        go_wp2_with fail
        refine (A1.out _).mono ?_; rintro e w3 ⟨rfl, hb3⟩
        have B3 := Lib.hid (Below.after B2.out hb3)
        clear hb3
        go_wp2_with fail
        refine (A2.out _).mono ?_; rintro e w4 ⟨rfl, hb4⟩
        have B4 := Lib.hid (Below.after B3.out hb4)
        clear hb4
        go_wp2_with fail
        refine (A3.out _).mono ?_; rintro e w5 ⟨rfl, hb5⟩
        have B5 := Lib.hid (Below.after B4.out hb5)
        clear hb5
        go_wp2_with fail
        go_ret
        exact ⟨by rw [E.out]; rfl, B5.out⟩
end Go.Proofs.Ytchholofnccbmaa
/- Contract of tri.Condition. -/
namespace Go.Proofs.Ytchholofnccbmaa
open Go.RowKit
set_option maxRecDepth 100000
def DMAX : Int := 72057594037927936
theorem variance_any (c : Addr) (h : Bool) (a : Int) (w : World) (hc : w.cell? c = some (.bool h)) (hf : w.frozen? c = false) :
    Calls Try.prog 21 #[.pointer (some c), .int .i64 a] w fun e w' => e = .returned (.int .i64 (clampV a 1 72057594037927936)) ∧ w.setCell c (.bool (h || clampH a 1 72057594037927936)) = w' := by
  go_enter Try.func21, Try.ntmps21
  go_wp2_with (go_at_call 25; refine (clamp_any c h a _ _ _ hc hf).mono ?_; rintro e w' ⟨rfl, rfl⟩)
  go_ret
  exact ⟨rfl, rfl⟩
/-- A covariance as 300 numbers: U's first, then D's. -/
def condF (f : Nat → Int) : Nat → Int := fun i => if i < 276 then satV (f i) else varV (f i)
def condH (f : Nat → Int) : Bool := orB (fun i => varH (f (276 + i))) 24 || orB (fun i => satH (f i)) 276
def condD (f : Nat → Int) (k : Nat) : Nat → Int := fun i => if 276 ≤ i ∧ i < 276 + k then varV (f i) else f i
def condU (f : Nat → Int) (k : Nat) : Nat → Int := fun i => if i < k then satV (f i) else if 276 ≤ i then varV (f i) else f i
structure CondR (c : Addr) (h : Bool) (g : Nat → Int) (w wr : World) : Prop where
  upd : Upd c h w wr
  blk : Blk wr w.heap.size 30 300 g
  res : Blk wr (w.heap.size + 1) 30 300 (fun _ => 0)
theorem zcov : Try.zeroCells30 = arrv 300 (fun _ => 0) := by kernel_rfl
theorem icov : (Try.prog.info? 30).map (·.size) = some 300 := by kernel_rfl
theorem cond_any (c : Addr) (h : Bool) (f : Nat → Int) (w : World) (hc : w.cell? c = some (.bool h)) (hf : w.frozen? c = false) :
    Calls Try.prog 15 #[.pointer (some c), .agg (arrv 300 f)] w fun e w' => e = .returned (.agg (arrv 300 (condF f))) ∧ Upd c (h || condH f) w w' := by
  have hcb := World.block_lt_of_cell? w c hc
  have HC := Lib.hid hc
  have HF := Lib.hid hf
  clear hc hf
  go_enter Try.func15, Try.ntmps15
  go_wp2_with fail
  go_loopw [7] (fun i wr => ∃ k : Nat, k ≤ 24 ∧ i = .int .i64 k ∧ Hid (CondR c (h || orB (fun i => varH (f (276 + i))) k) (condD f k) w wr)) (fun i _ => 24 - (intOf i).toNat)
  case atStart =>
    refine ⟨0, by omega, rfl, ⟨?_, ?_, ?_⟩⟩
    · rw [show (h || orB (fun i => varH (f (276 + i))) 0) = h from by simp [orB]]
      exact Upd.then (Upd.refl HC.out) (by (repeat (first | with_reducible exact Below.refl _ _ | with_reducible apply Below.drew | (with_reducible refine below_drewN ?_ _) | (with_reducible refine Below.alloc ?_ (by (try simp) <;> omega) _) | (with_reducible refine Below.setCell ?_ (by (try simp) <;> omega) _))))
    · exact (Blk.alloc (Blk.new w _ 300 f) _).congr fun i hi => by simp [condD]; omega
    · rw [zcov]; exact Blk.new1 w _ _ 300 _
  case round =>
    obtain ⟨k, hk, rfl, R⟩ := hrel
    by_cases hlt : k < 24
    · have rc := R.out.upd.cellc HC.out
      have rf := (R.out.upd.frozen hcb).trans HF.out
      have b0 := R.out.blk.cell (i := 276 + k) (by omega)
      have b1 := R.out.blk.free (276 + k)
      have n0 := ne_of_cells rc b0
      have hv : condD f k (276 + k) = f (276 + k) := by simp [condD]
      rw [hv] at b0
      clear hv
      go_wp2_with (go_at_call 21; refine (variance_any c _ _ _ rc rf).mono ?_; rintro e w' ⟨rfl, rfl⟩)
      go_roundw
      case rel =>
        refine ⟨k + 1, by omega, by go_num, ⟨?_, ?_, ?_⟩⟩
        · rw [show (h || orB (fun i => varH (f (276 + i))) (k + 1)) = (h || orB (fun i => varH (f (276 + i))) k || clampH (f (276 + k)) 1 72057594037927936) from by simp [orB, varH, Bool.or_assoc]]
          exact (R.out.upd.trans (Upd.set c _ _)).setCell (Nat.le_refl _) _
        · refine ((R.out.blk.other (R.out.blk.flag rc) _).set _ _).congr fun i hi => ?_
          simp only [Go.Proofs.Ytchholofnccbmaa.upd, condD, varV]
          by_cases h1 : i = 276 + k
          · subst h1; simp
          · rw [if_neg h1]; split <;> split <;> first | rfl | omega
        · exact (R.out.res.other (R.out.res.flag rc) _).other (by simp) _
      case measure => simp [intOf]; omega
    · have hk24 : k = 24 := by omega
      subst hk24
      have HR := R
      clear R hlt hk
      rw [show ((24 : Nat) : Int) = 24 from rfl]
      go_wp2_with fail
      go_loopw [20] (fun i wr => ∃ k : Nat, k ≤ 276 ∧ i = .int .i64 k ∧ Hid (CondR c (h || orB (fun i => varH (f (276 + i))) 24 || orB (fun i => satH (f i)) k) (condU f k) w wr)) (fun i _ => 276 - (intOf i).toNat)
      case atStart =>
        refine ⟨0, by omega, rfl, ⟨?_, HR.out.blk.congr fun i hi => by simp [condD, condU]; split <;> split <;> first | rfl | omega, HR.out.res⟩⟩
        rw [show (h || orB (fun i => varH (f (276 + i))) 24 || orB (fun i => satH (f i)) 0) = (h || orB (fun i => varH (f (276 + i))) 24) from by simp [orB]]
        exact HR.out.upd
      case round =>
        obtain ⟨k, hk, rfl, R⟩ := hrel
        by_cases hlt : k < 276
        · have rc := R.out.upd.cellc HC.out
          have rf := (R.out.upd.frozen hcb).trans HF.out
          have b0 := R.out.blk.cell (i := k) (by omega)
          have b1 := R.out.blk.free k
          have n0 := ne_of_cells rc b0
          have hv : condU f k k = f k := by simp [condU]; omega
          rw [hv] at b0
          clear hv
          go_wp2_with (go_at_call 25; refine (clamp_any c _ _ _ _ _ rc rf).mono ?_; rintro e w' ⟨rfl, rfl⟩)
          go_roundw
          case rel =>
            refine ⟨k + 1, by omega, by go_num, ⟨?_, ?_, ?_⟩⟩
            · rw [show (h || orB (fun i => varH (f (276 + i))) 24 || orB (fun i => satH (f i)) (k + 1)) = (h || orB (fun i => varH (f (276 + i))) 24 || orB (fun i => satH (f i)) k || clampH (f k) (-1152921504606846976) 1152921504606846976) from by simp [orB, satH, Bool.or_assoc]]
              exact (R.out.upd.trans (Upd.set c _ _)).setCell (Nat.le_refl _) _
            · refine ((R.out.blk.other (R.out.blk.flag rc) _).set _ _).congr fun i hi => ?_
              simp only [Go.Proofs.Ytchholofnccbmaa.upd, condU, satV]
              by_cases h1 : i = k
              · subst h1; simp
              · rw [if_neg h1]; repeat' split
                all_goals first | rfl | omega
            · exact (R.out.res.other (R.out.res.flag rc) _).other (by simp) _
          case measure => simp [intOf]; omega
        · have hk276 : k = 276 := by omega
          subst hk276
          have B0 := R.out.blk
          have B1 := R.out.res
          have U := Lib.hid R.out.upd
          have hl := B1.lt
          clear R hlt hk HR
          go_wp2_with (first | (refine wpList_load_row rfl 30 _ rfl w.heap.size rfl 30 _ (0, 0) _ B0 Try.underlying30 rfl (icov.trans (by rw [arrv_size])) ?_) | (refine wpList_store_row rfl 30 _ _ rfl (w.heap.size + 1) _ rfl rfl 30 _ B1 (icov.trans (by rw [arrv_size])) (by rw [arrv_size, arrv_size]) (oneCell_arrv _ _) ?_))
          refine bodyPost_ret (results_cell_row Try.results15 _ _ (w.heap.size + 1) 30 (arrv 300 (condU f 276)) (0, 0) _ rfl (setRow_heap _ _ _ _ _ _ B1) Try.underlying30 rfl (icov.trans (by rw [arrv_size]))) rfl ⟨?_, ?_⟩
          · rw [arrv_congr (g := condF f) fun i hi => ?_]
            simp only [condU, condF]
            by_cases h1 : i < 276
            · simp [h1]
            · rw [if_neg h1, if_neg h1, if_pos (by omega)]
          · rw [show (h || condH f) = (h || orB (fun i => varH (f (276 + i))) 24 || orB (fun i => satH (f i)) 276) from by simp [condH, Bool.or_assoc]]
            exact U.out.then' (below_row (Below.refl _ _) (by omega) _)
end Go.Proofs.Ytchholofnccbmaa
/- Contracts of package tri (2): Good, place, U, Set. -/
namespace Go.Proofs.Ytchholofnccbmaa
open Go.RowKit
set_option maxRecDepth 100000
theorem good_any (f : Nat → Int) (w : World) :
    Calls Try.prog 19 #[.agg (arrv 300 f)] w fun e w' => e = .returned (.bool (!condH f)) ∧ Below w.heap.size w w' := by
  go_enter Try.func19, Try.ntmps19
  have B0 := (Blk.new w 30 300 f).alloc (.cells #[.bool false] 25)
  go_wp2_with (first | (refine wpList_load_row rfl 30 _ rfl w.heap.size rfl 30 _ (0, 0) _ B0 Try.underlying30 rfl (icov.trans (by rw [arrv_size])) ?_) | (go_at_call 15; refine (cond_any ⟨w.heap.size + 1, 0, none⟩ false f _ (by simp) (by simp)).mono ?_; rintro e w1 ⟨rfl, hu1⟩; have k1 := hu1.cellc (h0 := false) (by simp)))
  go_ret
  refine ⟨by simp, ?_⟩
  exact Below.trans (by (repeat (first | with_reducible exact Below.refl _ _ | with_reducible apply Below.drew | (with_reducible refine below_drewN ?_ _) | (with_reducible refine Below.alloc ?_ (by (try simp) <;> omega) _) | (with_reducible refine Below.setCell ?_ (by (try simp) <;> omega) _)))) (Below.mono hu1 (by simp; omega))
theorem tri_mod (j : Nat) : j * (j - 1) % 2 = 0 := by
  rcases Nat.mod_two_eq_zero_or_one j with h | h
  · rw [Nat.mul_mod, h]; simp
  · cases j with
    | zero => simp
    | succ n => rw [Nat.mul_mod, show (n + 1 - 1) % 2 = 0 by omega]; simp
theorem pl_lt {i j : Nat} (h : i < j) (hj : j < 24) : pl i j < 276 := by
  unfold pl
  have : j * (j - 1) ≤ 23 * 22 := Nat.mul_le_mul (by omega) (by omega)
  omega
theorem pl_cast (i j : Nat) : ((pl i j : Nat) : Int) = (j : Int) * ((j - 1 : Nat) : Int) / 2 + (i : Int) := by
  unfold pl
  rw [← Int.natCast_mul]
  omega
theorem place_any (i j : Nat) (w : World) (_hi : i < 24) (hj : j < 24) :
    Calls Try.prog 56 #[.int .i64 i, .int .i64 j] w fun e w' => e = .returned (.tuple #[.int .i64 (pl i j : Nat), .bool (decide (i < j))]) ∧ w = w' := by
  have hmul : (j : Int) * ((j : Int) - 1) = ((j * (j - 1) : Nat) : Int) := by
    cases j with
    | zero => simp
    | succ n => rw [Int.natCast_mul, show ((n + 1 : Nat) : Int) - 1 = ((n + 1 - 1 : Nat) : Int) from by omega]
  have hb : j * (j - 1) ≤ 23 * 22 := Nat.mul_le_mul (by omega) (by omega)
  have hc := pl_cast i j
  have HC := Lib.hid hc
  clear hc
  by_cases h : i < j
  · have hd : decide (i < j) = true := by simpa using h
    rw [hd]
    clear hd
    go_enter Try.func56, Try.ntmps56
    go_wp2
    go_ret2
    refine ⟨?_, rfl⟩
    rw [HC.out]
    simp only [hj, decide_true, Int.ofNat_lt, and_self]
    first | rfl | (simp; omega) | simp
  · have hd : decide (i < j) = false := by simpa using h
    rw [hd]
    go_enter Try.func56, Try.ntmps56
    go_wp2
    go_ret2
    refine ⟨?_, rfl⟩
    rw [HC.out]
    first | rfl | (simp; done) | (simp; omega)
/-- U's number of row i and column j. -/
def uV (f : Nat → Int) (i j : Nat) : Int := if i = j then 1073741824 else if i < j then f (pl i j) else 0
theorem u_any (f : Nat → Int) (i j : Nat) (w : World) (hi : i < 24) (hj : j < 24) :
    Calls Try.prog 42 #[.agg (arrv 300 f), .int .i64 i, .int .i64 j] w fun e w' => e = .returned (.int .i64 (uV f i j)) ∧ Below w.heap.size w w' := by
  by_cases h : i = j
  · subst h
    rw [show uV f i i = 1073741824 from by simp [uV]]
    go_enter Try.func42, Try.ntmps42
    go_wp2
    go_ret
    exact ⟨rfl, by (repeat (first | with_reducible exact Below.refl _ _ | with_reducible apply Below.drew | (with_reducible refine below_drewN ?_ _) | (with_reducible refine Below.alloc ?_ (by (try simp) <;> omega) _) | (with_reducible refine Below.setCell ?_ (by (try simp) <;> omega) _)))⟩
  · have hne : ((i : Int) == (j : Int)) = false := by simp; omega
    by_cases h1 : i < j
    · have hp := pl_lt h1 hj
      have ev : uV f i j = f (pl i j) := by simp [uV, h, h1]
      obtain ⟨p, hpp⟩ : ∃ p, pl i j = p := ⟨_, rfl⟩
      have PC := Lib.hid (place_any i j)
      rw [hpp] at hp ev PC
      rw [ev, show decide (i < j) = true from by simpa using h1] at *
      have b0 := (Blk.new w 30 300 f).cell (i := p) (by omega)
      clear h hpp ev
      go_enter Try.func42, Try.ntmps42
      go_wp2_with (go_at_call 56; refine (PC.out _ hi hj).mono ?_; rintro e w' ⟨rfl, rfl⟩)
      go_ret
      exact ⟨rfl, by (repeat (first | with_reducible exact Below.refl _ _ | with_reducible apply Below.drew | (with_reducible refine below_drewN ?_ _) | (with_reducible refine Below.alloc ?_ (by (try simp) <;> omega) _) | (with_reducible refine Below.setCell ?_ (by (try simp) <;> omega) _)))⟩
    · have ev : uV f i j = 0 := by simp [uV, h, h1]
      have PC := Lib.hid (place_any i j)
      rw [ev]
      rw [show decide (i < j) = false from by simpa using h1] at PC
      clear h ev
      go_enter Try.func42, Try.ntmps42
      go_wp2_with (go_at_call 56; refine (PC.out _ hi hj).mono ?_; rintro e w' ⟨rfl, rfl⟩)
      go_ret
      exact ⟨rfl, by (repeat (first | with_reducible exact Below.refl _ _ | with_reducible apply Below.drew | (with_reducible refine below_drewN ?_ _) | (with_reducible refine Below.alloc ?_ (by (try simp) <;> omega) _) | (with_reducible refine Below.setCell ?_ (by (try simp) <;> omega) _)))⟩
theorem set_any (f : Nat → Int) (i j : Nat) (v : Int) (w : World) (h1 : i < j) (hj : j < 24) :
    Calls Try.prog 43 #[.agg (arrv 300 f), .int .i64 i, .int .i64 j, .int .i64 v] w fun e w' => e = .returned (.agg (arrv 300 (upd f (pl i j) v))) ∧ Below w.heap.size w w' := by
  have hp := pl_lt h1 hj
  have hi : i < 24 := by omega
  obtain ⟨p, hpp⟩ : ∃ p, pl i j = p := ⟨_, rfl⟩
  have pc : ∀ w, Calls Try.prog 56 #[.int .i64 i, .int .i64 j] w fun e w' => e = .returned (.tuple #[.int .i64 p, .bool true]) ∧ w = w' := fun w => by
    have := place_any i j w hi hj
    rwa [hpp, show decide (i < j) = true from by simpa using h1] at this
  rw [hpp] at hp ⊢
  have PC := Lib.hid pc
  clear pc hpp h1 hi hj
  go_enter Try.func43, Try.ntmps43
  go_wp2_with fail
  have A0 := (Blk.new w 30 300 f).alloc (.cells Try.zeroCells30 30)
  have A1 := Blk.new1 w (.cells (arrv 300 f) 30) 30 300 (fun _ => 0)
  rw [← zcov] at A1
  have hb : Below w.heap.size w ((w.alloc (.cells (arrv 300 f) 30)).alloc (.cells Try.zeroCells30 30)) := by (repeat (first | with_reducible exact Below.refl _ _ | with_reducible apply Below.drew | (with_reducible refine below_drewN ?_ _) | (with_reducible refine Below.alloc ?_ (by (try simp) <;> omega) _) | (with_reducible refine Below.setCell ?_ (by (try simp) <;> omega) _)))
  refine (PC.out _).mono ?_; rintro e w' ⟨rfl, rfl⟩
  generalize (w.alloc (.cells (arrv 300 f) 30)).alloc (.cells Try.zeroCells30 30) = W at *
  have b0 := A0.cell (i := p) (by omega)
  have b1 := A0.free p
  have B0 := A0.set p v
  have B1 := A1.other (a := ⟨w.heap.size, p, none⟩) (by simp) (.int .i64 v)
  go_wp2_with (first | (refine wpList_load_row rfl 30 _ rfl w.heap.size rfl 30 _ (0, 0) _ B0 Try.underlying30 rfl (icov.trans (by rw [arrv_size])) ?_) | (refine wpList_store_row rfl 30 _ _ rfl (w.heap.size + 1) _ rfl rfl 30 _ B1 (icov.trans (by rw [arrv_size])) (by rw [arrv_size, arrv_size]) (oneCell_arrv _ _) ?_))
  refine bodyPost_ret (results_cell_row Try.results43 _ _ (w.heap.size + 1) 30 (arrv 300 (upd f p v)) (0, 0) _ rfl (setRow_heap _ _ _ _ _ _ B1) Try.underlying30 rfl (icov.trans (by rw [arrv_size]))) rfl ⟨rfl, ?_⟩
  exact below_row (hb.setCell (Nat.le_refl _) _) (by omega) _
end Go.Proofs.Ytchholofnccbmaa
/- Contracts of package thornton (1): One, rows. -/
namespace Go.Proofs.Ytchholofnccbmaa
open Go.RowKit
set_option maxRecDepth 100000
def oneF : Nat → Int := fun i => if i / 24 = i % 24 then 1073741824 else 0
def oneS (k : Nat) : Nat → Int := fun i => if i / 24 = i % 24 ∧ i / 24 < k then 1073741824 else 0

/-- Column k of U; row i of a matrix. -/
def colF (f : Nat → Int) (k : Nat) : Nat → Int := fun m => if m ≤ k then uV f m k else 0
def rwV (f F : Nat → Int) (i k : Nat) : Int := dotV 30 (rowF 24 F i) (colF f k) 24
def rwB (f F : Nat → Int) (i k : Nat) : Bool := dotH 30 (rowF 24 F i) (colF f k) 24
def rwS (f F : Nat → Int) (k i : Nat) : Nat → Int := fun j => if j % 48 < k ∨ (j % 48 = k ∧ j / 48 < i) then rwV f F (j / 48) (j % 48) else 0
def rwE (f F : Nat → Int) (i : Nat) : Nat → Int := fun j => if j % 48 = 24 + j / 48 ∧ j / 48 < i then 1073741824 else rwS f F 24 0 j
def rowsW (f F : Nat → Int) : Nat → Int := fun j => if j % 48 < 24 then rwV f F (j / 48) (j % 48) else if j % 48 = 24 + j / 48 then 1073741824 else 0
def rwH (f F : Nat → Int) (k : Nat) : Bool := orB (fun k => orB (fun i => rwB f F i k) 24) k
def rowsH (f F : Nat → Int) : Bool := rwH f F 24
theorem zcol : (#[.int .i64 0, .int .i64 0, .int .i64 0, .int .i64 0, .int .i64 0, .int .i64 0, .int .i64 0, .int .i64 0, .int .i64 0, .int .i64 0, .int .i64 0, .int .i64 0, .int .i64 0, .int .i64 0, .int .i64 0, .int .i64 0, .int .i64 0, .int .i64 0, .int .i64 0, .int .i64 0, .int .i64 0, .int .i64 0, .int .i64 0, .int .i64 0] : Array Value) = arrv 24 (fun _ => 0) := by kernel_rfl
end Go.Proofs.Ytchholofnccbmaa
/- Contract of thornton.rows. -/
namespace Go.Proofs.Ytchholofnccbmaa
open Go.RowKit
set_option maxRecDepth 100000
end Go.Proofs.Ytchholofnccbmaa
/- thornton.Step (1): the numbers, and the first loop. -/
namespace Go.Proofs.Ytchholofnccbmaa
open Go.RowKit
set_option maxRecDepth 100000
def qV (a : Int) : Int := clampV a 0 72057594037927936
def qH (a : Int) : Bool := clampH a 0 72057594037927936
/-- Step's first loop: E, and the matrix clamped. -/
def eS (p q : Nat → Int) (i : Nat) : Nat → Int := fun x => if x < i then p (276 + x) else if 24 ≤ x ∧ x < 24 + i then qV (q (x - 24)) else 0
def fS (F : Nat → Int) (i k : Nat) : Nat → Int := fun x => if x / 24 < i ∨ (x / 24 = i ∧ x % 24 < k) then satV (F x) else F x
def row1H (F : Nat → Int) (i k : Nat) : Bool := orB (fun k => satH (F (i * 24 + k))) k
def loop1H (q F : Nat → Int) (i : Nat) : Bool := orB (fun i => qH (q i) || row1H F i 24) i
theorem zvec : (#[.int .i64 0, .int .i64 0, .int .i64 0, .int .i64 0, .int .i64 0, .int .i64 0, .int .i64 0, .int .i64 0, .int .i64 0, .int .i64 0, .int .i64 0, .int .i64 0, .int .i64 0, .int .i64 0, .int .i64 0, .int .i64 0, .int .i64 0, .int .i64 0, .int .i64 0, .int .i64 0, .int .i64 0, .int .i64 0, .int .i64 0, .int .i64 0, .int .i64 0, .int .i64 0, .int .i64 0, .int .i64 0, .int .i64 0, .int .i64 0, .int .i64 0, .int .i64 0, .int .i64 0, .int .i64 0, .int .i64 0, .int .i64 0, .int .i64 0, .int .i64 0, .int .i64 0, .int .i64 0, .int .i64 0, .int .i64 0, .int .i64 0, .int .i64 0, .int .i64 0, .int .i64 0, .int .i64 0, .int .i64 0] : Array Value) = arrv 48 (fun _ => 0) := by kernel_rfl
/-- Step's answer. -/
def stepE (f q : Nat → Int) : Nat → Int := eS (condF f) q 24
def stepW (f F : Nat → Int) : Nat → Int := rowsW (condF f) (fS F 24 0)
def stepF (f F q : Nat → Int) : Nat → Int := ON (stepW f F) (stepE f q) 24
def stepH (f F q : Nat → Int) : Bool := condH f || loop1H q F 24 || rowsH (condF f) (fS F 24 0) || HN (stepW f F) (stepE f q) 24
end Go.Proofs.Ytchholofnccbmaa
/- Contract of tri.New: noughts above the diagonal, the variances given, and the least variance where none is given. -/
namespace Go.Proofs.Ytchholofnccbmaa
open Go.RowKit
set_option maxRecDepth 100000
def newF (n : Nat) (L : Nat → Int) : Nat → Int := fun i => if i < 276 then 0 else if i - 276 < n then varV (L (i - 276)) else 1
def newB (n : Nat) (L : Nat → Int) (i : Nat) : Bool := if i < n then varH (L i) else false
def newH (n : Nat) (L : Nat → Int) : Bool := orB (newB n L) 24
def newI (n : Nat) (L : Nat → Int) (k : Nat) : Nat → Int := fun i => if i < 276 then 0 else if i < 276 + k then (if i - 276 < n then varV (L (i - 276)) else 1) else 0
theorem new_any (c : Addr) (h : Bool) (p : Option Addr) (n cp : Nat) (L : Nat → Int) (w : World) (hc : w.cell? c = some (.bool h)) (hf : w.frozen? c = false) (hL : Slc w p n L) :
    Calls Try.prog 11 #[.pointer (some c), .slice p n cp] w fun e w' => e = .returned (.agg (arrv 300 (newF n L))) ∧ Upd c (h || newH n L) w w' := by
  have hcb := World.block_lt_of_cell? w c hc
  have HC := Lib.hid hc
  have HF := Lib.hid hf
  have HL := Lib.hid hL
  clear hc hf hL
  go_enter Try.func11, Try.ntmps11
  go_wp2_with fail
  go_loopw [7] (fun i wr => ∃ k : Nat, k ≤ 24 ∧ i = .int .i64 k ∧ Hid (Upd c (h || orB (newB n L) k) w wr ∧ Blk wr w.heap.size 30 300 (fun _ => 0) ∧ Blk wr (w.heap.size + 1) 30 300 (newI n L k))) (fun i _ => 24 - (intOf i).toNat)
  case atStart =>
    refine ⟨0, by omega, rfl, ?_, ?_, ?_⟩
    · rw [show (h || orB (newB n L) 0) = h from by simp [orB]]
      exact Upd.then (Upd.refl HC.out) (by (repeat (first | with_reducible exact Below.refl _ _ | with_reducible apply Below.drew | (with_reducible refine below_drewN ?_ _) | (with_reducible refine Below.alloc ?_ (by (try simp) <;> omega) _) | (with_reducible refine Below.setCell ?_ (by (try simp) <;> omega) _))))
    · rw [zcov]; exact (Blk.new w _ _ _).alloc _
    · rw [zcov]; exact (Blk.new1 w _ _ _ _).congr fun i hi => by simp only [newI]; split <;> first | rfl | (rw [if_neg (by omega)])
  case round =>
    obtain ⟨k, hk, rfl, R⟩ := hrel
    by_cases hlt : k < 24
    · have d1 : decide ((k : Int) < 24) = true := by simp; omega
      have b0 := R.out.2.2.cell (i := 276 + k) (by omega)
      have b1 := R.out.2.2.free (276 + k)
      by_cases hkn : k < n
      · have d2 : decide ((k : Int) < (n : Int)) = true := by simp; omega
        obtain ⟨pb, po, rfl, hcell⟩ := HL.out k hkn
        have hne : (⟨pb, po + k, none⟩ : Addr) ≠ c := fun e => by rw [e, HC.out] at hcell; cases hcell
        have hpl := World.block_lt_of_cell? _ _ hcell
        have U1 : Upd c (h || orB (newB n L) k) w (wr.setCell ⟨w.heap.size + 1, 276 + k, none⟩ (.int .i64 1)) := R.out.1.setCell (by simp) _
        have rc := U1.cellc HC.out
        have rf := (U1.frozen hcb).trans HF.out
        have hcell' : wr.cell? ⟨pb, po + k, none⟩ = some (.int .i64 (L k)) := (R.out.1.cell hpl (Ne.symm hne)).trans hcell
        have hpn : pb ≠ w.heap.size + 1 := by simp at hpl; omega
        have hcell2 : (wr.setCell ⟨w.heap.size + 1, 276 + k, none⟩ (.int .i64 1)).cell? ⟨pb, po + k, none⟩ = some (.int .i64 (L k)) := (World.cell?_setCell_other _ _ _ _ (by intro e; injection e; omega)).trans hcell'
        have CC := Lib.hid (variance_any c _ (L k) _ rc rf)
        have S0 := Lib.hid (R.out.2.2.set (276 + k) 1)
        have T0 := Lib.hid (R.out.2.1.other (a := ⟨w.heap.size + 1, 276 + k, none⟩) (by simp) (.int .i64 1))
        have HU1 := Lib.hid U1
        clear U1 rc rf hcell' R
        go_wp2_with (go_at_call 21; refine CC.out.mono ?_; rintro e w' ⟨rfl, hw'⟩; have U3 := (Upd.set c (h || orB (newB n L) k || varH (L k)) (wr.setCell ⟨w.heap.size + 1, 276 + k, none⟩ (.int .i64 1))).then (by rw [show varH (L k) = clampH (L k) 1 72057594037927936 from rfl, hw']; exact Below.refl _ _); have HU2 := Lib.hid (HU1.out.trans U3); have S2 := S0.out.upd U3 (by have := hcb; omega); have HR2 := Lib.hid (T0.out.upd U3 (by have := hcb; omega)); have c0 := S2.cell (i := 276 + k) (by omega); have c1 := S2.free (276 + k); have HS2 := Lib.hid S2; clear hw' U3 S2)
        go_roundw
        case rel =>
          refine ⟨k + 1, by omega, by go_num, ?_, HR2.out.other (by simp) _, ?_⟩
          · rw [show (h || orB (newB n L) (k + 1)) = (h || orB (newB n L) k || varH (L k)) from by simp [orB, newB, hkn, Bool.or_assoc]]
            exact HU2.out.setCell (by simp) _
          · refine (HS2.out.set _ _).congr fun i hi => ?_
            simp only [Go.Proofs.Ytchholofnccbmaa.upd, newI]
            by_cases h1 : i = 276 + k
            · subst h1; rw [if_pos rfl, if_neg (by omega), if_pos (by omega), show 276 + k - 276 = k by omega, if_pos hkn]; rfl
            · rw [if_neg h1, if_neg h1]; split <;> first | rfl | (split <;> split <;> first | rfl | omega)
        case measure => simp [intOf]; omega
      · have d2 : decide ((k : Int) < (n : Int)) = false := by simp; omega
        go_wp2_with fail
        go_roundw
        case rel =>
          refine ⟨k + 1, by omega, by go_num, ?_, R.out.2.1.other (by simp) _, ?_⟩
          · rw [show (h || orB (newB n L) (k + 1)) = (h || orB (newB n L) k) from by simp [orB, newB, hkn]]
            exact R.out.1.setCell (by simp) _
          · refine (R.out.2.2.set _ _).congr fun i hi => ?_
            simp only [Go.Proofs.Ytchholofnccbmaa.upd, newI]
            by_cases h1 : i = 276 + k
            · subst h1; rw [if_pos rfl, if_neg (by omega), if_pos (by omega), show 276 + k - 276 = k by omega, if_neg hkn]
            · rw [if_neg h1]; split; rfl; split <;> split <;> first | rfl | omega
        case measure => simp [intOf]; omega
    · have hk24 : k = 24 := by omega
      subst hk24
      have B0 := R.out.2.1
      have B1 := R.out.2.2
      have HB := Lib.hid R.out.1
      clear R hlt hk
      rw [show ((24 : Nat) : Int) = 24 from rfl]
      go_wp2_with (first | (refine wpList_load_row rfl 30 _ rfl (w.heap.size + 1) rfl 30 _ (0, 0) _ B1 Try.underlying30 rfl (icov.trans (by rw [arrv_size])) ?_) | (refine wpList_store_row rfl 30 _ _ rfl w.heap.size _ rfl rfl 30 _ B0 (icov.trans (by rw [arrv_size])) (by rw [arrv_size, arrv_size]) (oneCell_arrv _ _) ?_))
      refine bodyPost_ret (results_cell_row Try.results11 _ _ w.heap.size 30 (arrv 300 (newI n L 24)) (0, 0) _ rfl (setRow_heap _ _ _ _ _ _ B0) Try.underlying30 rfl (icov.trans (by rw [arrv_size]))) rfl ⟨?_, ?_⟩
      · rw [arrv_congr (g := newF n L) fun i hi => by simp only [newI, newF]; split <;> first | rfl | (rw [if_pos (by omega)])]
      · exact HB.out.then' (below_row (Below.refl _ _) (Nat.le_refl _) _)
end Go.Proofs.Ytchholofnccbmaa
/- Contract of thornton.With: Step with One and the noises given. -/
namespace Go.Proofs.Ytchholofnccbmaa
open Go.RowKit
set_option maxRecDepth 100000
/-- The numbers copied into 24 noughts. -/
def copyF (n : Nat) (L : Nat → Int) : Nat → Int := fun i => if i < n then L i else 0
def copyL (n : Nat) (L : Nat → Int) : List Value := (List.range (min n 24)).map fun i => .int .i64 (L i)
theorem length_copyL (n : Nat) (L : Nat → Int) : (copyL n L).length = min n 24 := by simp [copyL]
theorem copyL_get {n : Nat} {L : Nat → Int} {j : Nat} {v : Value} (h : (copyL n L)[j]? = some v) : j < n ∧ v = .int .i64 (L j) := by
  simp only [copyL, List.getElem?_map, Option.map_eq_some_iff] at h
  obtain ⟨x, hx, rfl⟩ := h
  obtain ⟨h1, h2⟩ := List.getElem?_eq_some_iff.1 hx
  simp at h1 h2
  subst h2
  exact ⟨by omega, rfl⟩
theorem splice_copy (n : Nat) (L : Nat → Int) : (splice (arrv 24 (fun _ => 0)).toList 0 (copyL n L)).toArray = arrv 24 (copyF n L) := by
  apply Array.ext_getElem?
  intro i
  simp only [splice, List.take_zero, List.nil_append, Nat.zero_add, length_copyL, List.getElem?_toArray, List.getElem?_append, List.getElem?_drop, Array.getElem?_toList]
  by_cases hi : i < 24
  · rw [arrv_get (f := copyF n L) hi]
    split
    · rename_i h
      have : i < n := by omega
      simp [copyL, copyF, this, h]
    · rename_i h
      rw [show min n 24 + (i - min n 24) = i by omega, arrv_get hi]
      have : ¬ i < n := by omega
      simp [copyF, this]
  · rw [Array.getElem?_eq_none (xs := arrv 24 (copyF n L)) (by rw [arrv_size]; omega)]
    rw [if_neg (by omega), Array.getElem?_eq_none (by rw [arrv_size]; omega)]
end Go.Proofs.Ytchholofnccbmaa
/- bierman's numbers: what an update reckons with, and what it makes. No program. -/
namespace Go.Proofs.Ytchholofnccbmaa
/-- The first n numbers clamped, the others as they were. -/
def satS (H : Nat → Int) (n : Nat) : Nat → Int := fun i => if i < n then satV (H i) else H i
/-- Of the factors p (conditioned) and the row h (clamped): f, v, a. -/
def bkF (p h : Nat → Int) (j : Nat) : Int := dotV 30 h (colF p j) (j + 1)
def bkV (p h : Nat → Int) (j : Nat) : Int := mulV (p (276 + j)) (bkF p h j) 30
def bkA (p h : Nat → Int) (r : Int) : Nat → Int | 0 => r | j + 1 => addV (bkA p h r j) (mulV (bkF p h j) (bkV p h j) 30)
def bkFH (p h : Nat → Int) (j : Nat) : Bool := dotH 30 h (colF p j) (j + 1)
def bkVH (p h : Nat → Int) (j : Nat) : Bool := mulH (p (276 + j)) (bkF p h j) 30
def bkAH (p h : Nat → Int) (r : Int) (j : Nat) : Bool := mulH (bkF p h j) (bkV p h j) 30 || addH (bkA p h r j) (mulV (bkF p h j) (bkV p h j) 30)
def bkS (p h : Nat → Int) (r : Int) (j : Nat) : Bool := bkFH p h j || bkVH p h j || bkAH p h r j
/-- What look tells: 300 numbers of the factors, then f, v (24 each), a (25). -/
def lkP (p : Nat → Int) : Nat → Int := condF p
def lkH (p h : Nat → Int) (r : Int) : Bool := condH p || orB (fun i => satH (h i)) 24 || varH r || orB (bkS (condF p) (satS h 24) (varV r)) 24
/-- Update: row j of the gains' numbers, and the factors. -/
def upX (p h : Nat → Int) (r : Int) (j : Nat) : Int := -divV (bkF p h j) (bkA p h r j) 44
def upD (p h : Nat → Int) (r : Int) (j : Nat) : Int := varV (mdivV (p (276 + j)) (bkA p h r j) (bkA p h r (j + 1)))
/-- b, when j columns are done and of column j the first m rows. -/
def upB (p h : Nat → Int) : Nat → Nat → Int
  | 0 => fun _ => 0
  | j + 1 => fun i => if i = j then bkV p h j else if i < j then addV (upB p h j i) (mulV (uV p i j) (bkV p h j) 30) else upB p h j i
def upBm (p h : Nat → Int) (j m : Nat) : Nat → Int :=
  fun i => if i = j then bkV p h j else if i < m then addV (upB p h j i) (mulV (uV p i j) (bkV p h j) 30) else upB p h j i
def upU (p h : Nat → Int) (r : Int) (j i : Nat) : Int := addV (uV p i j) (mulV (upB p h j i) (upX p h r j) 44)
/-- The factors: column j begun, and m of its numbers made. -/
def upOm (O p h : Nat → Int) (r : Int) (j : Nat) : Nat → Nat → Int | 0 => upd O (276 + j) (upD p h r j) | m + 1 => upd (upOm O p h r j m) (pl m j) (upU p h r j m)
def upO (p h : Nat → Int) (r : Int) : Nat → Nat → Int | 0 => p | j + 1 => upOm (upO p h r j) p h r j j
def upDH (p h : Nat → Int) (r : Int) (j : Nat) : Bool := mdivH (p (276 + j)) (bkA p h r j) (bkA p h r (j + 1)) || varH (mdivV (p (276 + j)) (bkA p h r j) (bkA p h r (j + 1)))
def upXH (p h : Nat → Int) (r : Int) (j : Nat) : Bool := divH (bkF p h j) (bkA p h r j) 44
def upUH (p h : Nat → Int) (r : Int) (j i : Nat) : Bool := mulH (upB p h j i) (upX p h r j) 44 || addH (uV p i j) (mulV (upB p h j i) (upX p h r j) 44)
def upBH (p h : Nat → Int) (j i : Nat) : Bool := mulH (uV p i j) (bkV p h j) 30 || addH (upB p h j i) (mulV (uV p i j) (bkV p h j) 30)
def upRH (p h : Nat → Int) (r : Int) (j i : Nat) : Bool := upUH p h r j i || upBH p h j i
def upCH (p h : Nat → Int) (r : Int) (j : Nat) : Bool := upDH p h r j || upXH p h r j || orB (upRH p h r j) j
def upG (p h : Nat → Int) (r : Int) (i : Nat) : Int := divV (upB p h 24 i) (bkA p h r 24) 30
def upGH (p h : Nat → Int) (r : Int) (i : Nat) : Bool := divH (upB p h 24 i) (bkA p h r 24) 30
/-- Update's answer, of what was given. -/
def updP (p h : Nat → Int) (r : Int) : Nat → Int := upO (condF p) (satS h 24) (varV r) 24
def updG (p h : Nat → Int) (r : Int) : Nat → Int := upG (condF p) (satS h 24) (varV r)
def updS (p h : Nat → Int) (r : Int) : Int := bkA (condF p) (satS h 24) (varV r) 24
def updH (p h : Nat → Int) (r : Int) : Bool := lkH p h r || orB (upCH (condF p) (satS h 24) (varV r)) 24 || orB (upGH (condF p) (satS h 24) (varV r)) 24
end Go.Proofs.Ytchholofnccbmaa
/- Contract of bierman.Pick. -/
namespace Go.Proofs.Ytchholofnccbmaa
open Go.RowKit
set_option maxRecDepth 100000
theorem irow : (Try.prog.info? 40).map (·.size) = some 24 := by kernel_rfl
theorem zrow : (#[.int .i64 0, .int .i64 0, .int .i64 0, .int .i64 0, .int .i64 0, .int .i64 0, .int .i64 0, .int .i64 0, .int .i64 0, .int .i64 0, .int .i64 0, .int .i64 0, .int .i64 0, .int .i64 0, .int .i64 0, .int .i64 0, .int .i64 0, .int .i64 0, .int .i64 0, .int .i64 0, .int .i64 0, .int .i64 0, .int .i64 0, .int .i64 0] : Array Value) = arrv 24 (fun _ => 0) := by kernel_rfl
/-- One at each state that is named. -/
def pkS (L : Nat → Int) : Nat → Nat → Int | 0 => fun _ => 0 | n + 1 => if 0 ≤ L n ∧ L n < 24 then upd (pkS L n) (L n).toNat 1073741824 else pkS L n
theorem pick_any (p : Option Addr) (n cp : Nat) (L : Nat → Int) (w : World) (hL : Slc w p n L) (hn : n ≤ 9223372036854775807) :
    Calls Try.prog 20 #[.slice p n cp] w fun e w' => e = .returned (.agg (arrv 24 (pkS L n))) ∧ Below w.heap.size w w' := by
  have HL := Lib.hid hL
  clear hL
  go_enter Try.func20, Try.ntmps20
  go_wp2_with fail
  go_loopw [8] (fun i wr => ∃ k : Nat, k ≤ n ∧ i = .int .i64 k ∧ Hid (Below w.heap.size w wr ∧ Blk wr w.heap.size 40 24 (fun _ => 0) ∧ Blk wr (w.heap.size + 1) 40 24 (pkS L k))) (fun i _ => n - (intOf i).toNat)
  case atStart =>
    refine ⟨0, by omega, rfl, by (repeat (first | with_reducible exact Below.refl _ _ | with_reducible apply Below.drew | (with_reducible refine below_drewN ?_ _) | (with_reducible refine Below.alloc ?_ (by (try simp) <;> omega) _) | (with_reducible refine Below.setCell ?_ (by (try simp) <;> omega) _))), ?_, ?_⟩
    · rw [zrow]; exact (Blk.new w _ _ _).alloc _
    · rw [zrow]; exact Blk.new1 w _ _ _ _
  case round =>
    obtain ⟨k, hk, rfl, R⟩ := hrel
    by_cases hlt : k < n
    · have d1 : decide ((k : Int) < (n : Int)) = true := by simp; omega
      obtain ⟨pb, po, rfl, hcell⟩ := HL.out k hlt
      have hc1 : wr.cell? ⟨pb, po + k, none⟩ = some (.int .i64 (L k)) := (R.out.1.cell (World.block_lt_of_cell? _ _ hcell)).trans hcell
      by_cases h0 : 0 ≤ L k
      · by_cases h1 : L k < 24
        · have hx : ((L k).toNat : Int) = L k := by omega
          obtain ⟨x, hxk⟩ : ∃ x, (L k).toNat = x := ⟨_, rfl⟩
          have hLx : L k = (x : Int) := by omega
          have hxl : x < 24 := by omega
          rw [hLx] at hc1
          have b0 := R.out.2.2.cell (i := x) hxl
          have b1 := R.out.2.2.free x
          have HX := Lib.hid hLx
          have HR := Lib.hid R.out
          clear hx hxk hLx h0 h1 R hcell
          have hx0 : (0 : Int) ≤ (x : Int) := Int.natCast_nonneg _
          have hx1 : (x : Int) < 24 := by omega
          go_wp2_with fail
          go_roundw
          case rel =>
            refine ⟨k + 1, by omega, by go_num, HR.out.1.setCell (by simp) _, HR.out.2.1.other (by simp) _, ?_⟩
            have := HR.out.2.2.set x 1073741824
            have e : pkS L (k + 1) = upd (pkS L k) x 1073741824 := by
              simp only [pkS]
              rw [if_pos (by rw [HX.out]; omega), HX.out]; rfl
            rw [e]; exact this
          case measure => simp [intOf]; omega
        · have d2 : decide (L k < 24) = false := by simp; omega
          have d3 : decide (0 ≤ L k) = true := by simp; omega
          have HR := Lib.hid R.out
          have e : pkS L (k + 1) = pkS L k := by simp only [pkS]; rw [if_neg (by omega)]
          have HE := Lib.hid e
          clear R hcell e
          go_wp2_with fail
          go_roundw
          case rel =>
            refine ⟨k + 1, by omega, by go_num, HR.out.1, HR.out.2.1, ?_⟩
            rw [HE.out]; exact HR.out.2.2
          case measure => simp [intOf]; omega
      · have d3 : decide (0 ≤ L k) = false := by simp; omega
        have HR := Lib.hid R.out
        have e : pkS L (k + 1) = pkS L k := by simp only [pkS]; rw [if_neg (by omega)]
        have HE := Lib.hid e
        clear R hcell e
        go_wp2_with fail
        go_roundw
        case rel =>
          refine ⟨k + 1, by omega, by go_num, HR.out.1, HR.out.2.1, ?_⟩
          rw [HE.out]; exact HR.out.2.2
        case measure => simp [intOf]; omega
    · obtain rfl : k = n := by omega
      have B0 := R.out.2.1
      have B1 := R.out.2.2
      have HB := Lib.hid R.out.1
      clear R hlt hk
      go_wp2_with (first | (refine wpList_load_row rfl 40 _ rfl (w.heap.size + 1) rfl 40 _ (0, 0) _ B1 Try.underlying40 rfl (irow.trans (by rw [arrv_size])) ?_) | (refine wpList_store_row rfl 40 _ _ rfl w.heap.size _ rfl rfl 40 _ B0 (irow.trans (by rw [arrv_size])) (by rw [arrv_size, arrv_size]) (oneCell_arrv _ _) ?_))
      refine bodyPost_ret (results_cell_row Try.results20 _ _ w.heap.size 40 (arrv 24 (pkS L k)) (0, 0) _ rfl (setRow_heap _ _ _ _ _ _ B0) Try.underlying40 rfl (irow.trans (by rw [arrv_size]))) rfl ⟨rfl, ?_⟩
      exact below_row HB.out (Nat.le_refl _) _
end Go.Proofs.Ytchholofnccbmaa
/- Contract of bierman.Gain. -/
namespace Go.Proofs.Ytchholofnccbmaa
open Go.RowKit
set_option maxRecDepth 100000
def gnF (K : Nat → Int) (y : Int) (n : Nat) : Nat → Int := fun i => if i < n then mulV (K i) y 30 else K i
def gnB (K : Nat → Int) (y : Int) (i : Nat) : Bool := mulH (K i) y 30
theorem gain_any (c : Addr) (h : Bool) (K : Nat → Int) (y : Int) (w : World) (hc : w.cell? c = some (.bool h)) (hf : w.frozen? c = false) :
    Calls Try.prog 29 #[.pointer (some c), .agg (arrv 24 K), .int .i64 y] w fun e w' => e = .returned (.agg (arrv 24 (gnF K y 24))) ∧ Upd c (h || orB (gnB K y) 24) w w' := by
  have hcb := World.block_lt_of_cell? w c hc
  have HC := Lib.hid hc
  have HF := Lib.hid hf
  clear hc hf
  go_enter Try.func29, Try.ntmps29
  go_wp2_with fail
  go_loopw [8] (fun i wr => ∃ k : Nat, k ≤ 24 ∧ i = .int .i64 k ∧ Hid (Upd c (h || orB (gnB K y) k) w wr ∧ Blk wr w.heap.size 40 24 (gnF K y k) ∧ Blk wr (w.heap.size + 1) 40 24 (fun _ => 0))) (fun i _ => 24 - (intOf i).toNat)
  case atStart =>
    refine ⟨0, by omega, rfl, ?_, ?_, ?_⟩
    · rw [show (h || orB (gnB K y) 0) = h from by simp [orB]]
      exact Upd.then (Upd.refl HC.out) (by (repeat (first | with_reducible exact Below.refl _ _ | with_reducible apply Below.drew | (with_reducible refine below_drewN ?_ _) | (with_reducible refine Below.alloc ?_ (by (try simp) <;> omega) _) | (with_reducible refine Below.setCell ?_ (by (try simp) <;> omega) _))))
    · rw [show gnF K y 0 = K from by funext i; simp [gnF]]; exact (Blk.new w _ _ _).alloc _
    · rw [zrow]; exact Blk.new1 w _ _ _ _
  case round =>
    obtain ⟨k, hk, rfl, R⟩ := hrel
    by_cases hlt : k < 24
    · have d1 : decide ((k : Int) < 24) = true := by simp; omega
      have b0 := R.out.2.1.cell (i := k) (by omega)
      rw [show gnF K y k k = K k from by simp [gnF]] at b0
      have rc := R.out.1.cellc HC.out
      have rf := (R.out.1.frozen hcb).trans HF.out
      have CC := Lib.hid (fmul_any c _ (K k) y 30 _ rc rf)
      clear rc rf
      go_wp2_with (go_at_call 45; refine CC.out.mono ?_; rintro e w' ⟨rfl, u⟩; have HU2 := Lib.hid (R.out.1.trans u); have S2 := R.out.2.1.upd u (by have := hcb; omega); have HR2 := Lib.hid (R.out.2.2.upd u (by have := hcb; omega)); have c0 := S2.cell (i := k) (by omega); have c1 := S2.free k; have HS2 := Lib.hid S2; clear u S2)
      go_roundw
      case rel =>
        refine ⟨k + 1, by omega, by go_num, ?_, ?_, HR2.out.other (by simp) _⟩
        · rw [show (h || orB (gnB K y) (k + 1)) = (h || orB (gnB K y) k || mulH (K k) y 30) from by simp [orB, gnB, Bool.or_assoc]]
          exact HU2.out.setCell (by simp) _
        · refine (HS2.out.set _ _).congr fun i hi => ?_
          simp only [Go.Proofs.Ytchholofnccbmaa.upd, gnF]
          by_cases h1 : i = k
          · subst h1; rw [if_pos rfl, if_pos (by omega)]
          · rw [if_neg h1]; split <;> split <;> first | rfl | omega
      case measure => simp [intOf]; omega
    · have hk24 : k = 24 := by omega
      subst hk24
      have B0 := R.out.2.1
      have B1 := R.out.2.2
      have HB := Lib.hid R.out.1
      clear R hlt hk
      go_wp2_with (first | (refine wpList_load_row rfl 40 _ rfl w.heap.size rfl 40 _ (0, 0) _ B0 Try.underlying40 rfl (irow.trans (by rw [arrv_size])) ?_) | (refine wpList_store_row rfl 40 _ _ rfl (w.heap.size + 1) _ rfl rfl 40 _ B1 (irow.trans (by rw [arrv_size])) (by rw [arrv_size, arrv_size]) (oneCell_arrv _ _) ?_))
      refine bodyPost_ret (results_cell_row Try.results29 _ _ (w.heap.size + 1) 40 (arrv 24 (gnF K y 24)) (0, 0) _ rfl (setRow_heap _ _ _ _ _ _ B1) Try.underlying40 rfl (irow.trans (by rw [arrv_size]))) rfl ⟨rfl, ?_⟩
      exact HB.out.then' (below_row (Below.refl _ _) (by first | omega | simp) _)
end Go.Proofs.Ytchholofnccbmaa
