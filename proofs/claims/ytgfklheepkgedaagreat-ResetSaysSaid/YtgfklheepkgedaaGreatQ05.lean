/- Contracts of the program's functions and plain laws, part 5: they hold for all arguments. -/
import Derived.Test.YtgfklheepkgedaaGreatQ02
import Derived.Test.YtgfklheepkgedaaGreatQ04
import Derived.Test.YtgfklheepkgedaaGreatQ03
import Derived.Shelf.Spec.BitsCarry
import Derived.Deep.Cut
import Derived.Deep.CutRange
/- Contracts of package wide (8): less, minus, Root. -/
namespace Go.Proofs.YtgfklheepkgedaaGreat
open Go.RowKit
set_option maxRecDepth 100000
theorem sub64 (x y b : Nat) (hb : b ≤ 1) (w : World) : (callFunc 127 #[.int .u64 x, .int .u64 y, .int .u64 b]).run Tryz.prog w =
  .ok (.value (.tuple #[.int .u64 (((x + 18446744073709551616 - y - b) % 18446744073709551616 : Nat) : Int), .int .u64 ((if x < y + b then 1 else 0 : Nat) : Int)])) w := by
 rw [run_callFunc_extern Tryz.func127 (by kernel_rfl) (by kernel_rfl) (by kernel_rfl) (e := sub64Entry) (by kernel_rfl), run_sub64 x y b hb]
 rfl
/-- Sub64 at whole numbers: what is taken away may be greater. -/
theorem sub64_int (x y b : Int) (x0 : 0 ≤ x) (y0 : 0 ≤ y) (y1 : y < 18446744073709551616) (b0 : 0 ≤ b) (b1 : b ≤ 1) (w : World) : (callFunc 127 #[.int .u64 x, .int .u64 y, .int .u64 b]).run Tryz.prog w =
  .ok (.value (.tuple #[.int .u64 ((x - y - b) % 18446744073709551616), .int .u64 (if x < y + b then 1 else 0)])) w := by
 obtain ⟨x, rfl⟩ := Int.eq_ofNat_of_zero_le x0
 obtain ⟨y, rfl⟩ := Int.eq_ofNat_of_zero_le y0
 obtain ⟨b, rfl⟩ := Int.eq_ofNat_of_zero_le b0
 rw [sub64 x y b (by omega)]
 have e1 : (((x + 18446744073709551616 - y - b) % 18446744073709551616 : Nat) : Int) = ((x : Int) - y - b) % 18446744073709551616 := by omega
 have e2 : ((if x < y + b then 1 else 0 : Nat) : Int) = if (x : Int) < y + b then 1 else 0 := by
  by_cases h : x < y + b
  ·rw [if_pos h, if_pos (by omega)]; rfl
  ·rw [if_neg h, if_neg (by omega)]; rfl
 rw [e1, e2]
theorem less_walk (x y u v : Int) (w : World) (r : Bool) (hr : (decide (x < u) || ((x == u) && decide (y < v))) = r) :
  Calls Tryz.prog 124 #[.agg #[.int .u64 x, .int .u64 y], .agg #[.int .u64 u, .int .u64 v]] w fun e w' =>
   e = .returned (.bool r) ∧ Below w.heap.size w w' := by
 by_cases h1 : x < u
 ·have d1 : decide (x < u) = true := by simpa using h1
  rw [d1, Bool.true_or] at hr
  subst hr
  go_enter Tryz.func124, Tryz.ntmps124
  go_wp2_with fail
  go_ret
  refine ⟨rfl, ?_⟩
  (repeat (first | with_reducible exact Below.refl _ _ | with_reducible apply Below.drew | (with_reducible refine below_drewN ?_ _) | (with_reducible refine Below.alloc ?_ (by (try simp) <;> omega) _) | (with_reducible refine Below.setCell ?_ (by (try simp) <;> omega) _)))
 ·have d1 : decide (x < u) = false := by simpa using h1
  by_cases h2 : x = u
  ·subst h2
   by_cases h3 : y < v
   ·have d3 : decide (y < v) = true := by simpa using h3
    rw [d1, d3, show (x == x) = true by simp] at hr
    subst hr
    go_enter Tryz.func124, Tryz.ntmps124
    go_wp2_with fail
    go_ret
    refine ⟨rfl, ?_⟩
    (repeat (first | with_reducible exact Below.refl _ _ | with_reducible apply Below.drew | (with_reducible refine below_drewN ?_ _) | (with_reducible refine Below.alloc ?_ (by (try simp) <;> omega) _) | (with_reducible refine Below.setCell ?_ (by (try simp) <;> omega) _)))
   ·have d3 : decide (y < v) = false := by simpa using h3
    rw [d1, d3, show (x == x) = true by simp] at hr
    subst hr
    go_enter Tryz.func124, Tryz.ntmps124
    go_wp2_with fail
    go_ret
    refine ⟨rfl, ?_⟩
    (repeat (first | with_reducible exact Below.refl _ _ | with_reducible apply Below.drew | (with_reducible refine below_drewN ?_ _) | (with_reducible refine Below.alloc ?_ (by (try simp) <;> omega) _) | (with_reducible refine Below.setCell ?_ (by (try simp) <;> omega) _)))
  ·have d2 : (x == u) = false := by simpa using h2
   rw [d1, d2] at hr
   subst hr
   go_enter Tryz.func124, Tryz.ntmps124
   go_wp2_with fail
   go_ret
   refine ⟨rfl, ?_⟩
   (repeat (first | with_reducible exact Below.refl _ _ | with_reducible apply Below.drew | (with_reducible refine below_drewN ?_ _) | (with_reducible refine Below.alloc ?_ (by (try simp) <;> omega) _) | (with_reducible refine Below.setCell ?_ (by (try simp) <;> omega) _)))
theorem less_any (M N : Int) (w : World) :
  Calls Tryz.prog 124 #[.agg #[.int .u64 (hi64 M), .int .u64 (lo64 M)], .agg #[.int .u64 (hi64 N), .int .u64 (lo64 N)]] w fun e w' =>
   e = .returned (.bool (decide (M < N))) ∧ Below w.heap.size w w' :=
 less_walk _ _ _ _ w _ (by rw [Bool.eq_iff_iff]; simp; unfold hi64 lo64; omega)
theorem minus_any (M N S : Int) (w : World) (m0 : 0 ≤ M) (m1 : M < 340282366920938463463374607431768211456) (n0 : 0 ≤ N) (hS : M - N = S) (s0 : 0 ≤ S) :
  Calls Tryz.prog 125 #[.agg #[.int .u64 (hi64 M), .int .u64 (lo64 M)], .agg #[.int .u64 (hi64 N), .int .u64 (lo64 N)]] w fun e w' =>
   e = .returned (.agg #[.int .u64 (hi64 S), .int .u64 (lo64 S)]) ∧ Below w.heap.size w w' := by
 have bM := bits_hl m0 m1
 have bN := bits_hl (M := N) n0 (by omega)
 obtain ⟨br, hbr⟩ : ∃ br : Int, (if lo64 M < lo64 N + 0 then 1 else 0) = br := ⟨_, rfl⟩
 have b01 : 0 ≤ br ∧ br ≤ 1 := by rw [← hbr]; split <;> omega
 have a1 := fun w => sub64_int (lo64 M) (lo64 N) 0 bM.2.2.1 bN.2.2.1 bN.2.2.2 (by decide) (by decide) w
 have a2 := fun w => sub64_int (hi64 M) (hi64 N) br bM.1 bN.1 bN.2.1 b01.1 b01.2 w
 rw [hbr] at a1
 have r1 : (lo64 M - lo64 N - 0) % 18446744073709551616 = lo64 S := by unfold lo64; omega
 have r2 : (hi64 M - hi64 N - br) % 18446744073709551616 = hi64 S := by
  rw [← hbr]; unfold hi64 lo64; split <;> omega
 rw [r1] at a1
 rw [r2] at a2
 obtain ⟨b2, hb2⟩ : ∃ b2 : Int, (if hi64 M < hi64 N + br then 1 else 0) = b2 := ⟨_, rfl⟩
 rw [hb2] at a2
 clear hb2 r1 r2 hbr b01 bM bN hS m0 m1 n0 s0
 go_enter Tryz.func125, Tryz.ntmps125
 go_wp2_with fail
 simp [bodyPost, results, Tryz.results125, go_sem]
 (repeat (first | with_reducible exact Below.refl _ _ | with_reducible apply Below.drew | (with_reducible refine below_drewN ?_ _) | (with_reducible refine Below.alloc ?_ (by (try simp) <;> omega) _) | (with_reducible refine Below.setCell ?_ (by (try simp) <;> omega) _)))
/-- Block b holds a size of 128 bits. -/
def Big (w : World) (b : Nat) (x : Int) : Prop := w.heap[b]? = some (.cells #[.int .u64 (hi64 x), .int .u64 (lo64 x)] 156 (0, 0))
theorem Big.c0 {w : World} {b : Nat} {x : Int} (h : Big w b x) : w.cell? ⟨b, 0, none⟩ = some (.int .u64 (hi64 x)) := by rw [cell_of_row w b 0 _ _ _ h]; rfl
theorem Big.c1 {w : World} {b : Nat} {x : Int} (h : Big w b x) : w.cell? ⟨b, 1, none⟩ = some (.int .u64 (lo64 x)) := by rw [cell_of_row w b 1 _ _ _ h]; rfl
theorem Big.free {w : World} {b : Nat} {x : Int} (h : Big w b x) (i : Nat) : w.frozen? ⟨b, i, none⟩ = false := frozen_of_row w b i _ _ h
theorem Big.lt {w : World} {b : Nat} {x : Int} (h : Big w b x) : b < w.heap.size := World.block_lt_of_cell? w _ h.c0
theorem Big.below {w w' : World} {b : Nat} {x : Int} (h : Big w b x) (hb : Below w.heap.size w w') : Big w' b x := (hb.block b h.lt).trans h
theorem Big.alloc {w : World} {b : Nat} {x : Int} (h : Big w b x) (o : Obj) : Big (w.alloc o) b x := h.below ((Below.refl w.heap.size w).alloc (Nat.le_refl _) o)
theorem Big.new (w : World) (x : Int) : Big (w.alloc (.cells #[.int .u64 (hi64 x), .int .u64 (lo64 x)] 156)) w.heap.size x := heap_alloc_new w _
theorem Big.other {w : World} {b : Nat} {x : Int} (h : Big w b x) {a : Addr} (ha : b ≠ a.block) (v : Value) : Big (w.setCell a v) b x := (heap_setCell_other w a b v ha).trans h
theorem Big.set {w : World} {b : Nat} {x : Int} (h : Big w b x) (y : Int) : Big ((w.setCell ⟨b, 0, none⟩ (.int .u64 (hi64 y))).setCell ⟨b, 1, none⟩ (.int .u64 (lo64 y))) b y := by
 have h1 := heap_setCell_same w b 0 _ _ (.int .u64 (hi64 y)) h
 exact heap_setCell_same _ b 1 _ _ (.int .u64 (lo64 y)) h1
structure RootR (ρ r : Int) (w wr : World) : Prop where
 below : Below w.heap.size w wr
 e : Big wr (w.heap.size + 1) ρ
 r : Big wr (w.heap.size + 1 + 1) r
theorem RootR.bel {ρ r : Int} {w wr w' : World} (s : RootR ρ r w wr) (b : Below wr.heap.size wr w') : RootR ρ r w w' := ⟨Below.after s.below b, s.e.below b, s.r.below b⟩
theorem RootR.setE {ρ r : Int} {w wr : World} (s : RootR ρ r w wr) (y : Int) : RootR y r w ((wr.setCell ⟨w.heap.size + 1, 0, none⟩ (.int .u64 (hi64 y))).setCell ⟨w.heap.size + 1, 1, none⟩ (.int .u64 (lo64 y))) :=
 ⟨(s.below.setCell (by simp) _).setCell (by simp) _, s.e.set y, (s.r.other (by simp) _).other (by simp) _⟩
theorem RootR.setR {ρ r : Int} {w wr : World} (s : RootR ρ r w wr) (y : Int) : RootR ρ y w ((wr.setCell ⟨w.heap.size + 1 + 1, 0, none⟩ (.int .u64 (hi64 y))).setCell ⟨w.heap.size + 1 + 1, 1, none⟩ (.int .u64 (lo64 y))) :=
 ⟨(s.below.setCell (by simp; omega) _).setCell (by simp; omega) _, (s.e.other (by simp) _).other (by simp) _, s.r.set y⟩
theorem RootR.facts {ρ r : Int} {w wr : World} (s : RootR ρ r w wr) : (wr.cell? ⟨w.heap.size + 1, 0, none⟩ = some (.int .u64 (hi64 ρ)) ∧ wr.cell? ⟨w.heap.size + 1, 1, none⟩ = some (.int .u64 (lo64 ρ))) ∧
  (wr.cell? ⟨w.heap.size + 1 + 1, 0, none⟩ = some (.int .u64 (hi64 r)) ∧ wr.cell? ⟨w.heap.size + 1 + 1, 1, none⟩ = some (.int .u64 (lo64 r))) ∧
  (wr.frozen? ⟨w.heap.size + 1, 0, none⟩ = false ∧ wr.frozen? ⟨w.heap.size + 1, 1, none⟩ = false) ∧ (wr.frozen? ⟨w.heap.size + 1 + 1, 0, none⟩ = false ∧ wr.frozen? ⟨w.heap.size + 1 + 1, 1, none⟩ = false) ∧ w.heap.size + 1 + 1 < wr.heap.size :=
 ⟨⟨s.e.c0, s.e.c1⟩, ⟨s.r.c0, s.r.c1⟩, ⟨s.e.free _, s.e.free _⟩, ⟨s.r.free _, s.r.free _⟩, s.r.lt⟩
theorem big_facts {w : World} {b : Nat} {x : Int} (h : Big w b x) : w.cell? ⟨b, 0, none⟩ = some (.int .u64 (hi64 x)) ∧ w.cell? ⟨b, 1, none⟩ = some (.int .u64 (lo64 x)) ∧ b < w.heap.size := ⟨h.c0, h.c1, h.lt⟩
theorem rootT_yes {ρ r q : Nat} (h : ρ < r + q) {k : Nat} (hq : q = 4 ^ k) : rootT (ρ, r) k = (ρ, r / 2) := by
 unfold rootT; rw [← hq]; exact if_pos h
theorem rootT_no {ρ r q : Nat} (h : ¬ ρ < r + q) {k : Nat} (hq : q = 4 ^ k) : rootT (ρ, r) k = (ρ - (r + q), r / 2 + q) := by
 unfold rootT; rw [← hq]; exact if_neg h
set_option maxHeartbeats 8000000 in
theorem wroot_any (A : Int) (w : World) (a0 : 0 ≤ A) (a1 : A < 170141183460469231731687303715884105728) :
    Calls Tryz.prog 114 #[.agg #[.int .i64 (hi64 A), .int .u64 (lo64 A)]] w fun e w' =>
      e = .returned (.tuple #[.int .i64 (r64V (rootV A.toNat : Nat)), .bool (r64F (rootV A.toNat : Nat))]) ∧ Below w.heap.size w w' := by
  have p127 : (2 : Nat) ^ 127 = 170141183460469231731687303715884105728 := by decide
  have p128 : (2 : Nat) ^ 128 = 340282366920938463463374607431768211456 := by decide
  obtain ⟨N, rfl⟩ := Int.eq_ofNat_of_zero_le a0
  rw [Int.toNat_natCast]
  have HN : Hid (N < 2 ^ 127) := Lib.hid (by omega)
  have d0 : decide (hi64 (N : Int) < 0) = false := by unfold hi64; simp; omega
  have u1 : IntKind.u64.wrap (hi64 (N : Int)) = hi64 (N : Int) := by rw [IntKind.wrap_u64]; unfold hi64; omega
  have P127 := Lib.hid p127
  have P128 := Lib.hid p128
  clear p127 p128 a0 a1
  go_enter Tryz.func114, Tryz.ntmps114
  go_wp2_with fail
  go_loopw [6] (fun i wr => ∃ n : Nat, n ≤ 64 ∧ i = .int .i64 (126 - 2 * (n : Int)) ∧ Hid (RootR ((rootS N n).1 : Nat) ((rootS N n).2 : Nat) w wr)) (fun i _ => (intOf i + 2).toNat)
  case atStart =>
    refine ⟨0, by omega, rfl, ⟨by (repeat (first | with_reducible exact Below.refl _ _ | with_reducible apply Below.drew | (with_reducible refine below_drewN ?_ _) | (with_reducible refine Below.alloc ?_ (by (try simp) <;> omega) _) | (with_reducible refine Below.setCell ?_ (by (try simp) <;> omega) _))), ?_, ?_⟩⟩
    · have h := (Big.new (w.alloc (.cells #[.int .i64 (hi64 (N : Int)), .int .u64 (lo64 (N : Int))] 117)) (N : Int)).alloc (.cells #[.int .u64 0, .int .u64 0] 156)
      rwa [show (w.alloc (.cells #[.int .i64 (hi64 (N : Int)), .int .u64 (lo64 (N : Int))] 117)).heap.size = w.heap.size + 1 from by simp] at h
    · have h := Big.new ((w.alloc (.cells #[.int .i64 (hi64 (N : Int)), .int .u64 (lo64 (N : Int))] 117)).alloc (.cells #[.int .u64 (hi64 (N : Int)), .int .u64 (lo64 (N : Int))] 156)) 0
      rwa [show ((w.alloc (.cells #[.int .i64 (hi64 (N : Int)), .int .u64 (lo64 (N : Int))] 117)).alloc (.cells #[.int .u64 (hi64 (N : Int)), .int .u64 (lo64 (N : Int))] 156)).heap.size = w.heap.size + 1 + 1 from by simp] at h
  case round =>
    obtain ⟨n, hn, rfl, R⟩ := hrel
    by_cases hlt : n < 64
    · obtain ⟨b1, b2, b3⟩ := rootS_bd N HN.out n hlt
      have hst : rootS N (n + 1) = rootT (rootS N n) (63 - n) := rfl
      obtain ⟨q, hq⟩ : ∃ q : Nat, 4 ^ (63 - n) = q := ⟨_, rfl⟩
      obtain ⟨ρ, hρ⟩ : ∃ ρ : Nat, (rootS N n).1 = ρ := ⟨_, rfl⟩
      obtain ⟨r, hr⟩ : ∃ r : Nat, (rootS N n).2 = r := ⟨_, rfl⟩
      rw [show rootS N n = (ρ, r) from by rw [← hρ, ← hr]] at hst
      rw [hρ, hr] at R
      rw [hq, hr] at b2
      rw [hρ] at b1
      rw [hr] at b3
      have hsh : (1 : Int) * 2 ^ (126 - 2 * (n : Int)).toNat = (q : Int) := by
        rw [show (126 - 2 * (n : Int)).toNat = 2 * (63 - n) from by omega, Int.one_mul, ← hq, Int.pow_mul]; simp
      obtain ⟨r2, hr2⟩ : ∃ r2 : Nat, r / 2 = r2 := ⟨_, rfl⟩
      obtain ⟨ρ2, hρ2⟩ : ∃ ρ2 : Nat, ρ - (r + q) = ρ2 := ⟨_, rfl⟩
      obtain ⟨r3, hr3⟩ : ∃ r3 : Nat, r2 + q = r3 := ⟨_, rfl⟩
      have hhalf : (r : Int) / 2 ^ (1 : Int).toNat = (r2 : Int) := by rw [← hr2]; simp
      have b6 : r3 < 340282366920938463463374607431768211456 ∧ r2 ≤ r3 := by have := P128.out; omega
      have HR2 := Lib.hid hr2
      have HP2 := Lib.hid hρ2
      have HR3 := Lib.hid hr3
      have HSH := Lib.hid hsh
      have HHF := Lib.hid hhalf
      have HQ := Lib.hid hq
      have HST := Lib.hid hst
      have b4 : ρ < 170141183460469231731687303715884105728 := by have := P127.out; omega
      have b5 : r + q < 340282366920938463463374607431768211456 := by have := P128.out; omega
      have g0 : decide (0 ≤ 126 - 2 * (n : Int)) = true := by simp; omega
      clear hρ hr hq hst hsh hhalf b1 b2 b3 d0 u1 hr2 hρ2 hr3
      obtain ⟨⟨e0, e1⟩, ⟨r0, r1⟩, ⟨fe0, fe1⟩, ⟨fr0, fr1⟩, hsz⟩ := R.out.facts
      go_wp2_with fail
      refine (shl_any 1 (126 - 2 * (n : Int)) q _ (by decide) (by decide) (by omega) (by omega) HSH.out (by omega)).mono ?_; rintro e w1 ⟨rfl, hb1⟩
      have R1 := Lib.hid ((R.out.bel hb1).bel ((Below.refl w1.heap.size w1).alloc (Nat.le_refl _) (.cells #[.int .u64 (hi64 (q : Int)), .int .u64 (lo64 (q : Int))] 156)))
      have Q1 := Lib.hid (Big.new w1 (q : Int))
      have hqn : Hid (w1.heap.size ≠ w.heap.size + 1 + 1) := Lib.hid (by have := hb1.size; omega)
      have hne : Hid (w1.heap.size ≠ w.heap.size + 1) := Lib.hid (by have := hb1.size; omega)
      clear hb1 R e0 e1 r0 r1 fe0 fe1 fr0 fr1
      obtain ⟨⟨e0, e1⟩, ⟨r0, r1⟩, ⟨fe0, fe1⟩, ⟨fr0, fr1⟩, hsz⟩ := R1.out.facts
      obtain ⟨q0, q1, qz⟩ := big_facts Q1.out
      go_upto_region 8 with fail
      obtain ⟨bq, hbq⟩ : ∃ bq, w1.heap.size = bq := ⟨_, rfl⟩
      rw [hbq] at Q1 q0 q1 qz hqn hne ⊢
      generalize w1.alloc (.cells #[.int .u64 (hi64 (q : Int)), .int .u64 (lo64 (q : Int))] 156) = W1 at *
      clear hbq
      have kr := bits_hl (M := (r : Int)) (by omega) (by omega)
      have kq := bits_hl (M := (q : Int)) (by omega) (by omega)
      have lr := hilo (r : Int)
      have lq := hilo (q : Int)
      have PL := Lib.hid (fun w => plus_any _ _ _ _ ((r : Int) + q) w kr.1 kr.2.2.1 kr.2.2.2 kq.1 kq.2.2.1 kq.2.2.2 (by omega) (by omega))
      have SR := Lib.hid (fun w => shr_any _ _ 1 (r : Int) (r2 : Int) w kr.1 kr.2.1 kr.2.2.1 kr.2.2.2 (by decide) (by decide) lr HHF.out)
      clear kr kq lr lq
      go_wp2_with fail
      refine (PL.out _).mono ?_; rintro e w2 ⟨rfl, hb2⟩
      have R2 := Lib.hid ((R1.out.bel hb2).bel ((Below.refl w2.heap.size w2).alloc (Nat.le_refl _) (.cells #[.int .u64 (hi64 ((r : Int) + q)), .int .u64 (lo64 ((r : Int) + q))] 156)))
      have Q2 := Lib.hid ((Q1.out.below hb2).alloc (.cells #[.int .u64 (hi64 ((r : Int) + q)), .int .u64 (lo64 ((r : Int) + q))] 156))
      have X2 := Lib.hid (Big.new w2 ((r : Int) + q))
      have hxn : Hid (w2.heap.size ≠ w.heap.size + 1 + 1) := Lib.hid (by have := hb2.size; omega)
      clear hb2 R1 Q1 e0 e1 r0 r1 fe0 fe1 fr0 fr1 q0 q1 qz hsz
      obtain ⟨⟨e0, e1⟩, ⟨r0, r1⟩, ⟨fe0, fe1⟩, ⟨fr0, fr1⟩, hsz⟩ := R2.out.facts
      obtain ⟨q0, q1, qz⟩ := big_facts Q2.out
      obtain ⟨x0, x1, xz⟩ := big_facts X2.out
      go_upto_region 9 with fail
      obtain ⟨bx, hbx⟩ : ∃ bx, w2.heap.size = bx := ⟨_, rfl⟩
      rw [hbx] at X2 x0 x1 xz hxn ⊢
      generalize w2.alloc (.cells #[.int .u64 (hi64 ((r : Int) + q)), .int .u64 (lo64 ((r : Int) + q))] 156) = W2 at *
      clear hbx
      go_wp2_with fail
      refine (SR.out _).mono ?_; rintro e w3 ⟨rfl, hb3⟩
      have R3' := R2.out.bel hb3
      have R3 := Lib.hid (R3'.setR (r2 : Int))
      have hq3 := hqn.out
      have hx3 := hxn.out
      have Q3 := Lib.hid (((Q2.out.below hb3).other (a := ⟨w.heap.size + 1 + 1, 0, none⟩) hq3 (.int .u64 (hi64 (r2 : Int)))).other (a := ⟨w.heap.size + 1 + 1, 1, none⟩) hq3 (.int .u64 (lo64 (r2 : Int))))
      have X3 := Lib.hid (((X2.out.below hb3).other (a := ⟨w.heap.size + 1 + 1, 0, none⟩) hx3 (.int .u64 (hi64 (r2 : Int)))).other (a := ⟨w.heap.size + 1 + 1, 1, none⟩) hx3 (.int .u64 (lo64 (r2 : Int))))
      clear e0 e1 r0 r1 fe0 fe1 fr0 fr1 q0 q1 qz hsz x0 x1 xz
      obtain ⟨⟨e0, e1⟩, ⟨r0, r1⟩, ⟨fe0, fe1⟩, ⟨fr0, fr1⟩, hsz⟩ := R3'.facts
      clear hb3 R2 Q2 X2 R3' PL SR
      go_upto_region 10 with fail
      generalize (w3.setCell ⟨w.heap.size + 1 + 1, 0, none⟩ (.int .u64 (hi64 (r2 : Int)))).setCell ⟨w.heap.size + 1 + 1, 1, none⟩ (.int .u64 (lo64 (r2 : Int))) = W3 at *
      clear e0 e1 r0 r1 fe0 fe1 fr0 fr1 hsz
      obtain ⟨⟨e0, e1⟩, ⟨r0, r1⟩, ⟨fe0, fe1⟩, ⟨fr0, fr1⟩, hsz⟩ := R3.out.facts
      obtain ⟨q0, q1, qz⟩ := big_facts Q3.out
      obtain ⟨x0, x1, xz⟩ := big_facts X3.out
      have kz : (((r + q : Nat) : Int)) = (r : Int) + q := by omega
      by_cases hd : ρ < r + q
      · have d1 : decide ((ρ : Int) < (r : Int) + q) = true := by simp; omega
        have HT := Lib.hid (rootT_yes hd HQ.out.symm)
        clear kz hd
        go_wp2_with fail
        refine (less_any (ρ : Int) ((r : Int) + q) _).mono ?_; rintro e w4 ⟨rfl, hb4⟩
        have R4 := Lib.hid (R3.out.bel hb4)
        clear hb4 e0 e1 r0 r1 fe0 fe1 fr0 fr1 hsz q0 q1 qz x0 x1 xz
        go_wp2_with fail
        go_roundw
        case rel =>
          refine ⟨n + 1, by omega, by congr 1; omega, ?_⟩
          rw [HST.out, HT.out, HR2.out]
          exact R4.out
        case measure => simp [intOf]; omega
      · have d1 : decide ((ρ : Int) < (r : Int) + q) = false := by simp; omega
        have HT := Lib.hid (rootT_no hd HQ.out.symm)
        have hs : (ρ : Int) - ((r : Int) + q) = (ρ2 : Int) := by have := HP2.out; omega
        have MN := Lib.hid (fun w => minus_any (ρ : Int) ((r : Int) + q) _ w (by omega) (by omega) (by omega) hs (by omega))
        have kr := bits_hl (M := (r2 : Int)) (by omega) (by omega)
        have kq := bits_hl (M := (q : Int)) (by omega) (by omega)
        have lr := hilo (r2 : Int)
        have lq := hilo (q : Int)
        have PL := Lib.hid (fun w => plus_any _ _ _ _ (r3 : Int) w kr.1 kr.2.2.1 kr.2.2.2 kq.1 kq.2.2.1 kq.2.2.2 (by have := HR3.out; omega) (by omega))
        clear kz hd hs kr kq lr lq
        go_wp2_with fail
        refine (less_any (ρ : Int) ((r : Int) + q) _).mono ?_; rintro e w4 ⟨rfl, hb4⟩
        have R4 := Lib.hid (R3.out.bel hb4)
        have Q4 := Lib.hid (Q3.out.below hb4)
        have X4 := Lib.hid (X3.out.below hb4)
        clear hb4 e0 e1 r0 r1 fe0 fe1 fr0 fr1 hsz q0 q1 qz x0 x1 xz
        obtain ⟨⟨e0, e1⟩, ⟨r0, r1⟩, ⟨fe0, fe1⟩, ⟨fr0, fr1⟩, hsz⟩ := R4.out.facts
        obtain ⟨x0, x1, xz⟩ := big_facts X4.out
        go_wp2_with fail
        refine (MN.out _).mono ?_; rintro e w5 ⟨rfl, hb5⟩
        have R5' := R4.out.bel hb5
        have R5 := Lib.hid (R5'.setE (ρ2 : Int))
        have hq5 := hne.out
        have Q5 := Lib.hid (((Q4.out.below hb5).other (a := ⟨w.heap.size + 1, 0, none⟩) hq5 (.int .u64 (hi64 (ρ2 : Int)))).other (a := ⟨w.heap.size + 1, 1, none⟩) hq5 (.int .u64 (lo64 (ρ2 : Int))))
        clear e0 e1 r0 r1 fe0 fe1 fr0 fr1 hsz x0 x1 xz
        obtain ⟨⟨e0, e1⟩, ⟨r0, r1⟩, ⟨fe0, fe1⟩, ⟨fr0, fr1⟩, hsz⟩ := R5'.facts
        clear hb5 R4 Q4 X4 R5' MN hq5
        go_upto_region 12 with fail
        generalize (w5.setCell ⟨w.heap.size + 1, 0, none⟩ (.int .u64 (hi64 (ρ2 : Int)))).setCell ⟨w.heap.size + 1, 1, none⟩ (.int .u64 (lo64 (ρ2 : Int))) = W5 at *
        clear e0 e1 r0 r1 fe0 fe1 fr0 fr1 hsz
        obtain ⟨⟨e0, e1⟩, ⟨r0, r1⟩, ⟨fe0, fe1⟩, ⟨fr0, fr1⟩, hsz⟩ := R5.out.facts
        obtain ⟨q0, q1, qz⟩ := big_facts Q5.out
        go_wp2_with fail
        refine (PL.out _).mono ?_; rintro e w6 ⟨rfl, hb6⟩
        have R6' := R5.out.bel hb6
        have R6 := Lib.hid (R6'.setR (r3 : Int))
        clear e0 e1 r0 r1 fe0 fe1 fr0 fr1 hsz q0 q1 qz
        obtain ⟨⟨e0, e1⟩, ⟨r0, r1⟩, ⟨fe0, fe1⟩, ⟨fr0, fr1⟩, hsz⟩ := R6'.facts
        clear hb6 R5 Q5 R6' PL
        go_wp2_with fail
        go_roundw
        case rel =>
          refine ⟨n + 1, by omega, by congr 1; omega, ?_⟩
          rw [HST.out, HT.out, HR2.out, HP2.out, HR3.out]
          exact R6.out
        case measure => simp [intOf]; omega
    · have hn64 : n = 64 := by omega
      subst hn64
      rw [show (126 - 2 * ((64 : Nat) : Int)) = -2 from rfl]
      obtain ⟨b1, b2⟩ := rootS_end N HN.out
      obtain ⟨ρ, hρ⟩ : ∃ ρ : Nat, (rootS N 64).1 = ρ := ⟨_, rfl⟩
      obtain ⟨r, hr⟩ : ∃ r : Nat, (rootS N 64).2 = r := ⟨_, rfl⟩
      have HV : Hid (rootV N = if r < ρ then r + 1 else r) := by rw [← hρ, ← hr]; exact Lib.hid rfl
      rw [hρ, hr] at R
      rw [hρ] at b1
      rw [hr] at b2
      clear hρ hr d0 u1 hn hlt
      obtain ⟨⟨e0, e1⟩, ⟨r0, r1⟩, ⟨fe0, fe1⟩, ⟨fr0, fr1⟩, hsz⟩ := R.out.facts
      have b2 : r < 18446744073709551616 := by have : (2 : Nat) ^ 64 = 18446744073709551616 := by decide
                                               omega
      by_cases hd : r < ρ
      · have d1 : decide (r < ρ) = true := by simp; omega
        have kr := bits_hl (M := (r : Int)) (by omega) (by omega)
        have k1 := bits_hl (M := (r : Int) + 1) (by omega) (by omega)
        have lr := hilo (r : Int)
        have PL := Lib.hid (fun w => plus_any (hi64 (r : Int)) (lo64 (r : Int)) 0 1 ((r : Int) + 1) w kr.1 kr.2.2.1 kr.2.2.2 (by decide) (by decide) (by decide) (by omega) (by omega))
        have SG := Lib.hid (fun w => signed64_any (hi64 ((r : Int) + 1)) (lo64 ((r : Int) + 1)) false w k1.2.2.1 k1.2.2.2)
        have hs := s64_r64 ((r : Int) + 1) false (by omega) (by omega)
        have HS := Lib.hid hs
        have HV2 : Hid (((rootV N : Nat) : Int) = (r : Int) + 1) := Lib.hid (by rw [HV.out, if_pos hd]; simp)
        clear kr k1 lr hs hd b1 b2
        go_wp2_with fail
        refine (less_any (r : Int) (ρ : Int) _).mono ?_; rintro e w4 ⟨rfl, hb4⟩
        have R4 := Lib.hid (R.out.bel hb4)
        clear hb4 e0 e1 r0 r1 fe0 fe1 fr0 fr1 hsz R
        obtain ⟨⟨e0, e1⟩, ⟨r0, r1⟩, ⟨fe0, fe1⟩, ⟨fr0, fr1⟩, hsz⟩ := R4.out.facts
        go_wp2_with fail
        refine (PL.out _).mono ?_; rintro e w6 ⟨rfl, hb6⟩
        have R6' := R4.out.bel hb6
        have R6 := Lib.hid (R6'.setR ((r : Int) + 1))
        clear e0 e1 r0 r1 fe0 fe1 fr0 fr1 hsz
        obtain ⟨⟨e0, e1⟩, ⟨r0, r1⟩, ⟨fe0, fe1⟩, ⟨fr0, fr1⟩, hsz⟩ := R6'.facts
        clear hb6 R4 R6' PL
        go_upto_region 15 with fail
        generalize (w6.setCell ⟨w.heap.size + 1 + 1, 0, none⟩ (.int .u64 (hi64 ((r : Int) + 1)))).setCell ⟨w.heap.size + 1 + 1, 1, none⟩ (.int .u64 (lo64 ((r : Int) + 1))) = W6 at *
        clear e0 e1 r0 r1 fe0 fe1 fr0 fr1 hsz
        obtain ⟨⟨e0, e1⟩, ⟨r0, r1⟩, ⟨fe0, fe1⟩, ⟨fr0, fr1⟩, hsz⟩ := R6.out.facts
        go_wp2_with fail
        refine (SG.out _).mono ?_; rintro e w7 ⟨rfl, hb7⟩
        have B7 := Lib.hid (R6.out.bel hb7).below
        clear hb7
        go_wp2_with fail
        go_ret2
        refine ⟨?_, B7.out⟩
        rw [HS.out.1, HS.out.2, HV2.out]; rfl
      · have d1 : decide (r < ρ) = false := by simp; omega
        have kr := bits_hl (M := (r : Int)) (by omega) (by omega)
        have SG := Lib.hid (fun w => signed64_any (hi64 (r : Int)) (lo64 (r : Int)) false w kr.2.2.1 kr.2.2.2)
        have hs := s64_r64 (r : Int) false (by omega) (by omega)
        have HS := Lib.hid hs
        have HV2 : Hid (((rootV N : Nat) : Int) = (r : Int)) := Lib.hid (by rw [HV.out, if_neg hd])
        clear kr hs hd b1 b2
        go_wp2_with fail
        refine (less_any (r : Int) (ρ : Int) _).mono ?_; rintro e w4 ⟨rfl, hb4⟩
        have R4 := Lib.hid (R.out.bel hb4)
        clear hb4 e0 e1 r0 r1 fe0 fe1 fr0 fr1 hsz R
        obtain ⟨⟨e0, e1⟩, ⟨r0, r1⟩, ⟨fe0, fe1⟩, ⟨fr0, fr1⟩, hsz⟩ := R4.out.facts
        go_wp2_with fail
        refine (SG.out _).mono ?_; rintro e w7 ⟨rfl, hb7⟩
        have B7 := Lib.hid (R4.out.bel hb7).below
        clear hb7
        go_wp2_with fail
        go_ret2
        refine ⟨?_, B7.out⟩
        rw [HS.out.1, HS.out.2, HV2.out]; rfl
end Go.Proofs.YtgfklheepkgedaaGreat
/- Contract of fx.Add. -/
namespace Go.Proofs.YtgfklheepkgedaaGreat
open Go.RowKit
set_option maxRecDepth 100000
theorem of_any (a : Int) (w : World) (h1 : -9223372036854775808 ≤ a) (h2 : a < 9223372036854775808) :
  Calls Tryz.prog 103 #[.int .i64 a] w fun e w' => e = .returned (Wv a) ∧ Below w.heap.size w w' := by
 go_enter Tryz.func103, Tryz.ntmps103
 go_wp2_with fail
 simp [bodyPost, results, Tryz.results103, go_sem]
 refine ⟨?_, ?_⟩
 ·simp only [Wv, Value.agg.injEq, IntKind.wrap_u64]
  have : a / 9223372036854775808 = hi64 a := by unfold hi64; omega
  rw [this]; rfl
 ·(repeat (first | with_reducible exact Below.refl _ _ | with_reducible apply Below.drew | (with_reducible refine below_drewN ?_ _) | (with_reducible refine Below.alloc ?_ (by (try simp) <;> omega) _) | (with_reducible refine Below.setCell ?_ (by (try simp) <;> omega) _)))
/-- wide.Of. -/
theorem wof_any (a : Int) (w : World) (h1 : -9223372036854775808 ≤ a) (h2 : a < 9223372036854775808) :
  Calls Tryz.prog 103 #[.int .i64 a] w fun e w' => e = .returned (.agg #[.int .i64 (hi64 a), .int .u64 (lo64 a)]) ∧ Below w.heap.size w w' := of_any a w h1 h2
structure AddR (c : Addr) (h : Bool) (A : Nat → Int) (w : World) (k : Nat) (wr : World) : Prop where
 upd : Upd c (h || sumB A k) w wr
 c0 : wr.cell? ⟨w.heap.size, 0, none⟩ = some (.int .i64 (hi64 (sumS A k)))
 c1 : wr.cell? ⟨w.heap.size, 1, none⟩ = some (.int .u64 (lo64 (sumS A k)))
 f0 : wr.frozen? ⟨w.heap.size, 0, none⟩ = false
 f1 : wr.frozen? ⟨w.heap.size, 1, none⟩ = false
 sz : w.heap.size < wr.heap.size
set_option maxHeartbeats 1000000 in
theorem fadd_any (c : Addr) (h : Bool) (A : Nat → Int) (pa oa ca n : Nat) (w : World) (hc : w.cell? c = some (.bool h)) (hf : w.frozen? c = false) (hn : n ≤ 100)
  (hA : ∀ i, i < n → w.cell? ⟨pa, oa + i, none⟩ = some (.int .i64 (A i))) :
  Calls Tryz.prog 75 #[.pointer (some c), .slice (some ⟨pa, oa, none⟩) n ca] w fun e w' =>
   e = .returned (.int .i64 (satV (sumS A n))) ∧ Upd c (h || sumB A n || satH (sumS A n)) w w' := by
 have hcb := World.block_lt_of_cell? w c hc
 have HA := Lib.hid hA
 have HC := Lib.hid hc
 have HF := Lib.hid hf
 clear hA hc hf
 go_enter Tryz.func75, Tryz.ntmps75
 go_wp2_with fail
 go_loopw [12] (fun i wr => ∃ k : Nat, k ≤ n ∧ i = .int .i64 k ∧ Hid (AddR c h A w k wr)) (fun i _ => n - (intOf i).toNat)
 case atStart =>
  refine ⟨0, Nat.zero_le _, rfl, ⟨?_, by simp [sumS, hi64], by simp [sumS, lo64], by simp, by simp, by simp⟩⟩
  rw [show (h || sumB A 0) = h from by simp [sumB]]
  exact Upd.then (Upd.refl HC.out) (by (repeat (first | with_reducible exact Below.refl _ _ | with_reducible apply Below.drew | (with_reducible refine below_drewN ?_ _) | (with_reducible refine Below.alloc ?_ (by (try simp) <;> omega) _) | (with_reducible refine Below.setCell ?_ (by (try simp) <;> omega) _))))
 case round =>
  obtain ⟨k, hk, rfl, R⟩ := hrel
  by_cases hlt : k < n
  ·have a0 := HA.out k hlt
   have hsb := sumS_bd A k
   have u := R.out.upd
   have ra : wr.cell? ⟨pa, oa + k, none⟩ = some (.int .i64 (A k)) := (u.cell (World.block_lt_of_cell? w _ a0) (ne_of_cells HC.out a0)).trans a0
   have rc : wr.cell? c = some (.bool (h || sumB A k)) := u.cellc HC.out
   have rf : wr.frozen? c = false := (u.frozen hcb).trans HF.out
   have s0 := R.out.c0
   have s1 := R.out.c1
   have t0 := R.out.f0
   have t1 := R.out.f1
   have n0 := ne_of_cells rc s0
   have sA := satV_bd (A k)
   have RSZ := R.out.sz
   have U2 : Upd c (h || sumB A k || satH (A k)) wr (wr.drew.setCell c (.bool (h || sumB A k || satH (A k)))) := Upd.after (Below.drew (Below.refl _ _)) (Upd.set c _ wr.drew)
   have H2 := Lib.hid U2
   have HU := Lib.hid u
   have HSB := Lib.hid hsb
   have SA := Lib.hid sA
   clear U2 u hsb sA
   have hcS : ∀ o, c ≠ ⟨w.heap.size, o, none⟩ := fun o e => by rw [e] at hcb; simp at hcb
   go_wp2_with fail
   refine wp_region_M (fun w' => w'.cell? ⟨w.heap.size, 0, none⟩ = some (.int .i64 (hi64 (sumS A k))) ∧ w'.cell? ⟨w.heap.size, 1, none⟩ = some (.int .u64 (lo64 (sumS A k)))) 10 (by kernel_rfl) ?_ (fun hHeld => ?_)
   ·exact ⟨s0, s1⟩
   refine tk 0 ?_
   (try simp only [Act.put, nA, nB, nC])
   refine tk 1 ?_
   (try simp only [Act.put, nA, nB, nC])
   refine tk 2 ?_
   (try simp only [Act.put, nA, nB, nC])
   refine wpAnyM_oneS 3 rfl (by kernel_rfl) (fun K hK => ?_)
   go_simp
   (refine (sat_any c (h || sumB A k) (A k) wr.drew rc rf).mono ?_); rintro e w' ⟨rfl, rfl⟩
   (try dsimp only)
   (try simp only [Act.put, nA, nB, nC])
   clear hHeld
   refine hK.out _ _ ?_ (fun hHeld => ?_)
   ·simp [go_sem, *]
   clear hK K
   (try simp only [Act.put, nA, nB, nC])
   refine wpAnyM_oneS 4 rfl (by kernel_rfl) (fun K hK => ?_)
   go_simp
   (refine (wof_any _ _ (by have := SA.out; omega) (by have := SA.out; omega)).mono ?_); rintro e w3 ⟨rfl, hb3⟩; have U3 : Upd c (h || sumB A k || satH (A k)) wr w3 := Upd.then H2.out hb3; have kp := keep2 U3 s0 s1 n0 (hcS 1); have HU3 := Lib.hid U3; clear U3; have hz3 : w.heap.size < w3.heap.size := by have := HU3.out.size; omega
   (try dsimp only)
   (try simp only [Act.put, nA, nB, nC])
   clear hHeld
   refine hK.out _ _ ?_ (fun hHeld => ?_)
   ·exact kp
   clear hK K
   (try simp only [Act.put, nA, nB, nC])
   refine wpAnyM_oneS 5 rfl (by kernel_rfl) (fun K hK => ?_)
   go_simp
   clear hHeld
   refine hK.out _ _ ?_ (fun hHeld => ?_)
   ·obtain ⟨e1, e2⟩ := kp; simp [World.cell?_alloc_some, e1, e2]
   clear hK K
   (try simp only [Act.put, nA, nB, nC])
   refine wpAnyM_oneS 6 rfl (by kernel_rfl) (fun K hK => ?_)
   go_simp
   (refine (wadd2_any (sumS A k) (satV (A k)) (sumS A (k + 1)) w3.heap.size 2 _ (by have := HSB.out; omega) (by have := HSB.out; omega) (by have := SA.out; omega) (by have := SA.out; omega) rfl (by have := HSB.out; have := SA.out; simp only [sumS]; omega) (by have := HSB.out; have := SA.out; simp only [sumS]; omega) (by simp) (by simp) (by simp) (by simp)).mono ?_); rintro e w4 ⟨rfl, hb4⟩; have U4 : Upd c (h || sumB A k || satH (A k)) wr w4 := Upd.then (Upd.alloc HU3.out _) hb4; have kp2 := keep2 U4 s0 s1 n0 (hcS 1); have fz0 : w4.frozen? ⟨w.heap.size, 0, none⟩ = false := (U4.frozen RSZ).trans t0; have fz1 : w4.frozen? ⟨w.heap.size, 1, none⟩ = false := (U4.frozen RSZ).trans t1; have HU4 := Lib.hid U4; clear U4; obtain ⟨y0, y1⟩ := kp2
   (try dsimp only)
   (try simp only [Act.put, nA, nB, nC])
   clear hHeld
   refine hK.out _ _ ?_ (fun hHeld => ?_)
   ·exact ⟨y0, y1⟩
   clear hK K
   (try simp only [Act.put, nA, nB, nC])
   refine tk 7 ?_
   (try simp only [Act.put, nA, nB, nC])
   refine tk 8 ?_
   (try simp only [Act.put, nA, nB, nC])
   refine wpAnyM_takeW 9 (v := ?_) rfl (by kernel_rfl) (fun _ _ _ h => h) (Or.inl ⟨by rfl, ?_⟩) (.inr (by assumption)) ?_
   rotate_left
   ·(intro wx hSw; (try dsimp only at hSw); go_simp; (try with_reducible rfl))
   (try simp only [Act.put, nA, nB, nC])
   refine wpAnyM_one 10 rfl (by kernel_rfl) (fun K hK => ?_)
   go_simp
   refine hK.out _ _ (.inl (by kernel_rfl)) (fun _ => ?_)
   clear hK K
   (try simp only [Act.put, nA, nB, nC])
   refine wpAnyM_done (by kernel_rfl) ?_ _
   go_wp2_with fail
   go_roundw
   case rel =>
    refine ⟨k + 1, by omega, by go_num, ?_⟩
    have U := HU.out.trans HU4.out
    have tc := two_cells y0 y1 (.int .i64 (hi64 (sumS A (k + 1)))) (.int .u64 (lo64 (sumS A (k + 1))))
    refine ⟨?_, tc.1, tc.2, by rw [World.frozen?_setCell, World.frozen?_setCell]; exact fz0, by rw [World.frozen?_setCell, World.frozen?_setCell]; exact fz1, ?_⟩
    ·rw [show (h || sumB A (k + 1)) = (h || sumB A k || satH (A k)) from by simp [sumB, Bool.or_assoc]]
     exact (U.setCell (Nat.le_refl _) _).setCell (Nat.le_refl _) _
    ·have := HU4.out.size; simp [World.setCell]; omega
   case measure => simp [intOf]; omega
  ·have hkn : k = n := by omega
   subst hkn
   have u := R.out.upd
   have sb := sumS_bd A k
   have rc : wr.cell? c = some (.bool (h || sumB A k)) := u.cellc HC.out
   have rf : wr.frozen? c = false := (u.frozen hcb).trans HF.out
   have s0 := R.out.c0
   have s1 := R.out.c1
   have RSZ := R.out.sz
   have HS := Lib.hid sb
   have HU := Lib.hid u
   clear u sb
   go_wp2_with fail
   refine (round_any (sumS A k) 0 _ (by decide) (by decide) (by have := HS.out; omega) (by have := HS.out; omega)).mono ?_; rintro e w5 ⟨rfl, hb5⟩
   have rc5 : w5.cell? c = some (.bool (h || sumB A k)) := (hb5.cell (World.block_lt_of_cell? _ _ rc)).trans rc
   have rf5 : w5.frozen? c = false := (hb5.frozen (World.block_lt_of_cell? _ _ rc)).trans rf
   have s5 : w5.cell? ⟨w.heap.size, 0, none⟩ = some (.int .i64 (hi64 (sumS A k))) := (hb5.cell RSZ).trans s0
   have H5 := Lib.hid hb5
   clear hb5 rc rf s0 s1
   go_wp2_with fail
   refine (end_any c _ (rsh (sumS A k) 0) _ _ rc5 rf5 (fun hn => by rw [hi_neg]; exact rsh_neg _ _ hn)).mono ?_; rintro e w6 ⟨rfl, rfl⟩
   go_wp2_with fail
   go_ret
   rw [rsh_zero]
   exact ⟨rfl, HU.out.trans (Upd.after H5.out (Upd.set c _ _))⟩
end Go.Proofs.YtgfklheepkgedaaGreat
/- Plain numbers: Hypot, Unit: what they come to, and that Unit's answer has the length One. No program. -/
namespace Go.Proofs.YtgfklheepkgedaaGreat
/-- The root of the sum of the squares (of at most 64 numbers). -/
def hypV (A : Nat → Int) (n : Nat) : Int := satV (rootV (dotS A A n).toNat : Nat)
def hypH (A : Nat → Int) (n : Nat) : Bool := orB (fun i => satH (A i)) n || satH (rootV (dotS A A n).toNat : Nat)
def uniT (A : Nat → Int) : Nat → Int := fun i => divV (A i) (hypV A 4) 30
def uniTH (A : Nat → Int) : Bool := hypH A 4 || orB (fun i => divH (A i) (hypV A 4) 30) 4
def satA (A : Nat → Int) : Nat → Int := fun i => satV (A i)
def oneQ : Nat → Int := fun i => if i = 0 then 1073741824 else 0
def zer4 (A : Nat → Int) : Bool := decide (A 0 = 0) && decide (A 1 = 0) && decide (A 2 = 0) && decide (A 3 = 0)
def uniV (A : Nat → Int) : Nat → Int := if zer4 (satA A) = true then oneQ else uniT (uniT (satA A))
def uniH (A : Nat → Int) : Bool := orB (fun i => satH (A i)) 4 || (if zer4 (satA A) = true then false else uniTH (satA A) || uniTH (uniT (satA A)))
theorem sq_nonneg (a : Int) : 0 ≤ a * a := by
 rcases Int.le_total 0 a with h | h
 ·exact Int.mul_nonneg h h
 ·exact Int.mul_nonneg_of_nonpos_of_nonpos h h
theorem int_lt_or_ge (a b : Int) : a < b ∨ b ≤ a := by omega
end Go.Proofs.YtgfklheepkgedaaGreat
/- Plain numbers: Unit's answer has the length One, whatever is given; and when it raises no flag. No program. -/
namespace Go.Proofs.YtgfklheepkgedaaGreat
/-- The root of a sum of squares, as a whole number. -/
theorem root_int (S : Int) (h0 : 0 ≤ S) (h1 : S < 340282366920938463463374607431768211456) (R : Int) (hR : ((rootV S.toNat : Nat) : Int) = R) :
  0 ≤ R ∧ (R = 0 ∨ R * R < S + R) ∧ S ≤ R * R + R := by
 obtain ⟨n, rfl⟩ := Int.eq_ofNat_of_zero_le h0
 have e : (2 : Nat) ^ 128 = 340282366920938463463374607431768211456 := by decide
 obtain ⟨a, b⟩ := rootV_spec n (by omega)
 rw [Int.toNat_natCast] at hR
 generalize rootV n = r at *
 subst hR
 refine ⟨Int.natCast_nonneg _, ?_, ?_⟩
 ·rcases a with a | a
  ·exact .inl (by exact_mod_cast a)
  ·exact .inr (by exact_mod_cast a)
 ·exact_mod_cast b
theorem sq_le {a B : Int} (hB : 0 ≤ B) (h1 : -B ≤ a) (h2 : a ≤ B) : a * a ≤ B * B := by
 have k1 : 0 ≤ (B - a) * (B + a) := Int.mul_nonneg (by omega) (by omega)
 have e1 : (B - a) * (B + a) = B * B - a * a := by grind
 omega
end Go.Proofs.YtgfklheepkgedaaGreat
/- Contracts of package root: end, Hypot. -/
namespace Go.Proofs.YtgfklheepkgedaaGreat
open Go.RowKit
set_option maxRecDepth 100000
theorem rootV_63 (A : Int) (a0 : 0 ≤ A) (a1 : A ≤ 85070591730234615865843651857942052864) : 0 ≤ ((rootV A.toNat : Nat) : Int) ∧ ((rootV A.toNat : Nat) : Int) ≤ 9223372036854775808 := by
 obtain ⟨R, hR⟩ : ∃ R : Int, ((rootV A.toNat : Nat) : Int) = R := ⟨_, rfl⟩
 obtain ⟨b1, b2, b3⟩ := root_int A a0 (by omega) R hR
 rw [hR]
 refine ⟨b1, ?_⟩
 rcases int_lt_or_ge 9223372036854775808 R with h | h
 ·exfalso
  have h2 : 9223372036854775809 * R ≤ R * R := Int.mul_le_mul_of_nonneg_right (by omega) b1
  omega
 ·exact h
theorem rend_ok (c : Addr) (h : Bool) (A v : Int) (w : World) (hc : w.cell? c = some (.bool h)) (hf : w.frozen? c = false)
  (hr : ∀ w, Calls Tryz.prog 114 #[.agg #[.int .i64 (hi64 A), .int .u64 (lo64 A)]] w fun e w' => e = .returned (.tuple #[.int .i64 v, .bool true]) ∧ Below w.heap.size w w') :
  Calls Tryz.prog 85 #[.pointer (some c), .agg #[.int .i64 (hi64 A), .int .u64 (lo64 A)]] w fun e w' => e = .returned (.int .i64 (satV v)) ∧ Upd c (h || satH v) w w' := by
 have hcb := World.block_lt_of_cell? w c hc
 have HR := Lib.hid hr
 clear hr
 go_enter Tryz.func85, Tryz.ntmps85
 go_wp2_with fail
 refine (HR.out _).mono ?_; rintro e w1 ⟨rfl, hb1⟩
 have k1 : w1.cell? c = some (.bool h) := (hb1.cell (by simp; omega)).trans (by simp [World.cell?_alloc_lt, hcb, hc])
 have k2 : w1.frozen? c = false := (hb1.frozen (by simp; omega)).trans (by rw [frozen?_alloc_cells]; exact hf)
 go_wp2_with fail
 refine (sat_any c h v w1 k1 k2).mono ?_; rintro e w2 ⟨rfl, rfl⟩
 go_wp2_with fail
 go_ret
 refine ⟨rfl, ?_⟩
 have hb : Below w.heap.size w w1 := by (repeat (first | with_reducible exact Below.refl _ _ | with_reducible assumption | with_reducible apply Below.drew | (with_reducible refine below_drewN ?_ _) | (with_reducible refine Below.alloc ?_ (by (try simp) <;> omega) _) | (with_reducible refine Below.setCell ?_ (by (try simp) <;> omega) _) | (with_reducible refine Below.trans ?_ (Below.mono (by assumption) (by (try simp) <;> omega)))))
 exact Upd.after hb (Upd.set c _ w1)
theorem rend_no (c : Addr) (h : Bool) (A v : Int) (w : World) (hc : w.cell? c = some (.bool h)) (hf : w.frozen? c = false)
  (hr : ∀ w, Calls Tryz.prog 114 #[.agg #[.int .i64 (hi64 A), .int .u64 (lo64 A)]] w fun e w' => e = .returned (.tuple #[.int .i64 v, .bool false]) ∧ Below w.heap.size w w') :
  Calls Tryz.prog 85 #[.pointer (some c), .agg #[.int .i64 (hi64 A), .int .u64 (lo64 A)]] w fun e w' => e = .returned (.int .i64 1152921504606846976) ∧ Upd c true w w' := by
 have hcb := World.block_lt_of_cell? w c hc
 have HR := Lib.hid hr
 clear hr
 have e1 : satV 1152921504606846977 = 1152921504606846976 := by decide
 have e2 : (h || satH 1152921504606846977) = true := by rw [show satH 1152921504606846977 = true by decide, Bool.or_true]
 go_enter Tryz.func85, Tryz.ntmps85
 go_wp2_with fail
 refine (HR.out _).mono ?_; rintro e w1 ⟨rfl, hb1⟩
 have k1 : w1.cell? c = some (.bool h) := (hb1.cell (by simp; omega)).trans (by simp [World.cell?_alloc_lt, hcb, hc])
 have k2 : w1.frozen? c = false := (hb1.frozen (by simp; omega)).trans (by rw [frozen?_alloc_cells]; exact hf)
 go_wp2_with fail
 refine (sat_any c h 1152921504606846977 w1 k1 k2).mono ?_; rintro e w2 ⟨rfl, rfl⟩
 rw [e1, e2]
 go_wp2_with fail
 go_ret
 refine ⟨rfl, ?_⟩
 have hb : Below w.heap.size w w1 := by (repeat (first | with_reducible exact Below.refl _ _ | with_reducible assumption | with_reducible apply Below.drew | (with_reducible refine below_drewN ?_ _) | (with_reducible refine Below.alloc ?_ (by (try simp) <;> omega) _) | (with_reducible refine Below.setCell ?_ (by (try simp) <;> omega) _) | (with_reducible refine Below.trans ?_ (Below.mono (by assumption) (by (try simp) <;> omega)))))
 exact Upd.after hb (Upd.set c _ w1)
theorem rend_any (c : Addr) (h : Bool) (A : Int) (w : World) (hc : w.cell? c = some (.bool h)) (hf : w.frozen? c = false) (a0 : 0 ≤ A) (a1 : A ≤ 85070591730234615865843651857942052864) :
  Calls Tryz.prog 85 #[.pointer (some c), .agg #[.int .i64 (hi64 A), .int .u64 (lo64 A)]] w fun e w' =>
   e = .returned (.int .i64 (satV (rootV A.toNat : Nat))) ∧ Upd c (h || satH (rootV A.toNat : Nat)) w w' := by
 obtain ⟨r0, r1⟩ := rootV_63 A a0 a1
 have hr := fun w => wroot_any A w a0 (by omega)
 generalize ((rootV A.toNat : Nat) : Int) = R at *
 by_cases hF : r64F R = true
 ·have hV : r64V R = R := by simp [r64V, hF]
  rw [hF, hV] at hr
  exact rend_ok c h A R w hc hf hr
 ·have h2 : r64F R = false := by simpa using hF
  rw [h2] at hr
  have h3 : R = 9223372036854775808 := by simp [r64F] at h2; omega
  subst h3
  rw [show satV 9223372036854775808 = 1152921504606846976 by decide, show satH 9223372036854775808 = true by decide, Bool.or_true]
  exact rend_no c h A _ w hc hf hr
structure HypR (c : Addr) (h : Bool) (A : Nat → Int) (w : World) (k : Nat) (wr : World) : Prop where
 upd : Upd c (h || orB (fun i => satH (A i)) k) w wr
 c0 : wr.cell? ⟨w.heap.size, 0, none⟩ = some (.int .i64 (hi64 (dotS A A k)))
 c1 : wr.cell? ⟨w.heap.size, 1, none⟩ = some (.int .u64 (lo64 (dotS A A k)))
 f0 : wr.frozen? ⟨w.heap.size, 0, none⟩ = false
 f1 : wr.frozen? ⟨w.heap.size, 1, none⟩ = false
 sz : w.heap.size < wr.heap.size
theorem sqS_nonneg (A : Nat → Int) (n : Nat) : 0 ≤ dotS A A n := by
 induction n with
 | zero => simp [dotS]
 | succ n ih => have := sq_nonneg (satV (A n)); simp only [dotS]; omega
set_option maxHeartbeats 2000000 in
theorem hypot_any (c : Addr) (h : Bool) (A : Nat → Int) (pa oa ca n : Nat) (w : World) (hc : w.cell? c = some (.bool h)) (hf : w.frozen? c = false) (hn : n ≤ 64)
  (hcap : n ≤ ca) (hA : ∀ i, i < n → w.cell? ⟨pa, oa + i, none⟩ = some (.int .i64 (A i))) :
  Calls Tryz.prog 48 #[.pointer (some c), .slice (some ⟨pa, oa, none⟩) n ca] w fun e w' =>
   e = .returned (.int .i64 (hypV A n)) ∧ Upd c (h || hypH A n) w w' := by
 have hcb := World.block_lt_of_cell? w c hc
 have HA := Lib.hid hA
 have HC := Lib.hid hc
 have HF := Lib.hid hf
 clear hA hc hf
 have m64 : ((min n 64 : Nat) : Int) = n := by omega
 have m65 : min (n : Int) 64 = n := by omega
 go_enter Tryz.func48, Tryz.ntmps48
 go_wp2_with fail
 clear m64 m65
 go_loopw [14] (fun i wr => ∃ k : Nat, k ≤ n ∧ i = .int .i64 k ∧ Hid (HypR c h A w k wr)) (fun i _ => n - (intOf i).toNat)
 case atStart =>
  refine ⟨0, Nat.zero_le _, rfl, ⟨?_, by simp [dotS, hi64], by simp [dotS, lo64], by simp, by simp, by simp⟩⟩
  rw [show (h || orB (fun i => satH (A i)) 0) = h from by simp [orB]]
  exact Upd.then (Upd.refl HC.out) (by (repeat (first | with_reducible exact Below.refl _ _ | with_reducible apply Below.drew | (with_reducible refine below_drewN ?_ _) | (with_reducible refine Below.alloc ?_ (by (try simp) <;> omega) _) | (with_reducible refine Below.setCell ?_ (by (try simp) <;> omega) _))))
 case round =>
  obtain ⟨k, hk, rfl, R⟩ := hrel
  by_cases hlt : k < n
  ·have a0 := HA.out k hlt
   have hsb := dotS_bd A A k
   have hpb := prod_bd (A k) (A k)
   have u := R.out.upd
   have ra : wr.cell? ⟨pa, oa + k, none⟩ = some (.int .i64 (A k)) := (u.cell (World.block_lt_of_cell? w _ a0) (ne_of_cells HC.out a0)).trans a0
   have rc : wr.cell? c = some (.bool (h || orB (fun i => satH (A i)) k)) := u.cellc HC.out
   have rf : wr.frozen? c = false := (u.frozen hcb).trans HF.out
   have s0 := R.out.c0
   have s1 := R.out.c1
   have t0 := R.out.f0
   have t1 := R.out.f1
   have n0 := ne_of_cells rc s0
   have sA := satV_bd (A k)
   have hcS : ∀ o, c ≠ ⟨w.heap.size, o, none⟩ := fun o e => by rw [e] at hcb; simp at hcb
   have U2 : Upd c (h || orB (fun i => satH (A i)) k || satH (A k)) wr (wr.setCell c (.bool (h || orB (fun i => satH (A i)) k || satH (A k)))) := Upd.set c _ wr
   have kp := keep2 U2 s0 s1 n0 (hcS 1)
   obtain ⟨x0, x1⟩ := kp
   have H2 := Lib.hid U2
   have RSZ := R.out.sz
   have HU := Lib.hid u
   have HSB := Lib.hid hsb
   have HPB := Lib.hid hpb
   have SA := Lib.hid sA
   have SC := Lib.hid (sat_any c (h || orB (fun i => satH (A i)) k) (A k) wr rc rf)
   clear U2 u hsb hpb sA
   go_upto_region 5 with fail
   go_wp2_with fail
   refine SC.out.mono ?_; rintro e w' ⟨rfl, rfl⟩
   have cc : (wr.setCell c (.bool (h || orB (fun i => satH (A i)) k || satH (A k)))).cell? c = some (.bool (h || orB (fun i => satH (A i)) k || satH (A k))) := World.cell?_setCell_same _ _ _ rc
   have CC := Lib.hid cc
   clear SC cc s0 s1 rc rf
   go_upto_region 6 with fail
   obtain ⟨W2, hW2⟩ : ∃ W2, wr.setCell c (.bool (h || orB (fun i => satH (A i)) k || satH (A k))) = W2 := ⟨_, rfl⟩
   rw [hW2] at H2 x0 x1 CC ⊢
   have n2 := ne_of_cells CC.out x0
   clear hW2
   refine wp_region_M (fun w' => w'.cell? ⟨w.heap.size, 0, none⟩ = some (.int .i64 (hi64 (dotS A A k))) ∧ w'.cell? ⟨w.heap.size, 1, none⟩ = some (.int .u64 (lo64 (dotS A A k)))) 9 (by kernel_rfl) ?_ (fun hHeld => ?_)
   ·exact ⟨x0, x1⟩
   refine tk 0 ?_
   (try simp only [Act.put, nA, nB, nC])
   refine tk 1 ?_
   (try simp only [Act.put, nA, nB, nC])
   refine tk 2 ?_
   (try simp only [Act.put, nA, nB, nC])
   refine wpAnyM_oneS 3 rfl (by kernel_rfl) (fun K hK => ?_)
   go_simp
   (refine (mul_any _ _ _ _ (by have := SA.out; omega) (by have := SA.out; omega) (by have := SA.out; omega) (by have := SA.out; omega) rfl (by have := HPB.out; omega) (by have := HPB.out; omega)).mono ?_); rintro e w3 ⟨rfl, hb3⟩; have U3 : Upd c (h || orB (fun i => satH (A i)) k || satH (A k)) wr w3 := Upd.then (Upd.drew H2.out) hb3; have kp : w3.cell? ⟨w.heap.size, 0, none⟩ = some (.int .i64 (hi64 (dotS A A k))) ∧ w3.cell? ⟨w.heap.size, 1, none⟩ = some (.int .u64 (lo64 (dotS A A k))) := ⟨(hb3.cell (World.block_lt_of_cell? _ _ x0)).trans x0, (hb3.cell (World.block_lt_of_cell? _ _ x1)).trans x1⟩; have HU3 := Lib.hid U3; clear U3; have hz3 : w.heap.size < w3.heap.size := by have := HU3.out.size; omega
   (try dsimp only)
   (try simp only [Act.put, nA, nB, nC])
   clear hHeld
   refine hK.out _ _ ?_ (fun hHeld => ?_)
   ·exact kp
   clear hK K
   (try simp only [Act.put, nA, nB, nC])
   refine wpAnyM_oneS 4 rfl (by kernel_rfl) (fun K hK => ?_)
   go_simp
   clear hHeld
   refine hK.out _ _ ?_ (fun hHeld => ?_)
   ·obtain ⟨e1, e2⟩ := kp; simp [World.cell?_alloc_some, e1, e2]
   clear hK K
   (try simp only [Act.put, nA, nB, nC])
   refine wpAnyM_oneS 5 rfl (by kernel_rfl) (fun K hK => ?_)
   go_simp
   (refine (wadd2_any (dotS A A k) (satV (A k) * satV (A k)) (dotS A A (k + 1)) w3.heap.size 2 _ (by have := HSB.out; omega) (by have := HSB.out; omega) (by have := HPB.out; omega) (by have := HPB.out; omega) rfl (by have := HSB.out; have := HPB.out; simp only [dotS]; omega) (by have := HSB.out; have := HPB.out; simp only [dotS]; omega) (by simp) (by simp) (by simp) (by simp)).mono ?_); rintro e w4 ⟨rfl, hb4⟩; have U4 : Upd c (h || orB (fun i => satH (A i)) k || satH (A k)) wr w4 := Upd.then (Upd.alloc HU3.out _) hb4; have kp2 : w4.cell? ⟨w.heap.size, 0, none⟩ = some (.int .i64 (hi64 (dotS A A k))) ∧ w4.cell? ⟨w.heap.size, 1, none⟩ = some (.int .u64 (lo64 (dotS A A k))) := (by obtain ⟨e1, e2⟩ := kp; exact ⟨(hb4.cell (by simp; omega)).trans (by simp [World.cell?_alloc_some, e1]), (hb4.cell (by simp; omega)).trans (by simp [World.cell?_alloc_some, e2])⟩); have fz0 : w4.frozen? ⟨w.heap.size, 0, none⟩ = false := (U4.frozen RSZ).trans t0; have fz1 : w4.frozen? ⟨w.heap.size, 1, none⟩ = false := (U4.frozen RSZ).trans t1; have HU4 := Lib.hid U4; clear U4; obtain ⟨y0, y1⟩ := kp2
   (try dsimp only)
   (try simp only [Act.put, nA, nB, nC])
   clear hHeld
   refine hK.out _ _ ?_ (fun hHeld => ?_)
   ·exact ⟨y0, y1⟩
   clear hK K
   (try simp only [Act.put, nA, nB, nC])
   refine tk 6 ?_
   (try simp only [Act.put, nA, nB, nC])
   refine tk 7 ?_
   (try simp only [Act.put, nA, nB, nC])
   refine wpAnyM_takeW 8 (v := ?_) rfl (by kernel_rfl) (fun _ _ _ h => h) (Or.inl ⟨by rfl, ?_⟩) (.inr (by assumption)) ?_
   rotate_left
   ·(intro wx hSw; (try dsimp only at hSw); go_simp; (try with_reducible rfl))
   (try simp only [Act.put, nA, nB, nC])
   refine wpAnyM_one 9 rfl (by kernel_rfl) (fun K hK => ?_)
   go_simp
   refine hK.out _ _ (.inl (by kernel_rfl)) (fun _ => ?_)
   clear hK K
   (try simp only [Act.put, nA, nB, nC])
   refine wpAnyM_done (by kernel_rfl) ?_ _
   go_wp2_with fail
   go_roundw
   case rel =>
    refine ⟨k + 1, by omega, by go_num, ?_⟩
    have U := HU.out.trans HU4.out
    have tc := two_cells y0 y1 (.int .i64 (hi64 (dotS A A (k + 1)))) (.int .u64 (lo64 (dotS A A (k + 1))))
    refine ⟨?_, tc.1, tc.2, by rw [World.frozen?_setCell, World.frozen?_setCell]; exact fz0, by rw [World.frozen?_setCell, World.frozen?_setCell]; exact fz1, ?_⟩
    ·rw [show (h || orB (fun i => satH (A i)) (k + 1)) = (h || orB (fun i => satH (A i)) k || satH (A k)) from by simp [orB, Bool.or_assoc]]
     exact (U.setCell (Nat.le_refl _) _).setCell (Nat.le_refl _) _
    ·have := HU4.out.size; simp [World.setCell]; omega
   case measure => simp [intOf]; omega
  ·have hkn : k = n := by omega
   subst hkn
   have u := R.out.upd
   have sb := dotS_bd A A k
   have sn := sqS_nonneg A k
   have rc : wr.cell? c = some (.bool (h || orB (fun i => satH (A i)) k)) := u.cellc HC.out
   have rf : wr.frozen? c = false := (u.frozen hcb).trans HF.out
   have s0 := R.out.c0
   have s1 := R.out.c1
   have EN := Lib.hid (rend_any c _ (dotS A A k) wr rc rf sn (by omega))
   have HU := Lib.hid u
   clear u sb sn rc rf
   go_wp2_with fail
   refine EN.out.mono ?_; rintro e w5 ⟨rfl, hu5⟩
   go_wp2_with fail
   go_ret
   refine ⟨rfl, ?_⟩
   have := HU.out.trans hu5
   rwa [show (h || hypH A k) = (h || orB (fun i => satH (A i)) k || satH (rootV (dotS A A k).toNat : Nat)) from by simp [hypH, Bool.or_assoc]]
end Go.Proofs.YtgfklheepkgedaaGreat
/- Part of a block of numbers, loaded or stored as a whole. -/
namespace Go.Proofs.YtgfklheepkgedaaGreat
open Go.RowKit
open Go in
theorem run_loadVar_sub {P : Program} {w : World} {g T N : Nat} {f : Nat → Int} (h : Blk w g T N f) (o n : Nat) (hon : o + n ≤ N) (ty : TypeId) (d : TypeDesc)
  (hu : P.underlying ty = some d) (hd : (match d with | .struct _ | .array _ _ => true | _ => false) = true) (hi : (P.info? ty).map (·.size) = some n) :
  (loadVar ty ⟨g, o, none⟩).run P w = .ok (.agg (arrv n (fun i => f (o + i)))) w := by
 have hl : (loadCells ⟨g, o, none⟩ (arrv n (fun i => f (o + i))).toList.length).run P w = .ok (arrv n (fun i => f (o + i))).toList.toArray w :=
  run_loadCells_list (P := P) w ⟨g, o, none⟩ (arrv n (fun i => f (o + i))).toList (fun j v hv => by
   have hadd : (⟨g, o, none⟩ : Addr).add j = ⟨g, o + j, none⟩ := by unfold Addr.add; split <;> simp_all
   have hv' : (arrv n (fun i => f (o + i)))[j]? = some v := by simpa using hv
   have hj : j < n := by
    rcases Nat.lt_or_ge j n with h' | h'
    ·exact h'
    ·rw [Array.getElem?_eq_none (by rw [arrv_size]; omega)] at hv'; cases hv'
   rw [arrv_get hj] at hv'
   rw [hadd, h.cell (by omega)]; exact hv')
 cases hq : P.info? ty with
 | none => simp [hq] at hi
 | some i =>
  have hs : i.size = n := by simpa [hq] using hi
  have hagg : (isAgg ty).run P w = .ok true w := by
   unfold isAgg
   rw [Sem.run_bind, run_underlying hu w]
   cases d <;> simp_all
  simp only [Array.length_toList, Array.toArray_toList, arrv_size] at hl
  simp [loadVar, Sem.run_bind, hagg, sizeOf, typeInfo, hq, hs, hl]
open Go in
theorem wp_load_sub {P : Program} {o' : Oper} {a : Act} {w : World} {K : Act → World → Prop} {Q : Exit → Act → World → Prop} (ty : TypeId) (x : Operand) (ho : o'.op = .load ty x)
  (g o n : Nat) (hx : a.eval x = .pointer (some ⟨g, o, none⟩)) {T N : Nat} {f : Nat → Int} (h : Blk w g T N f) (hon : o + n ≤ N) (d : TypeDesc)
  (hu : P.underlying ty = some d) (hd : (match d with | .struct _ | .array _ _ => true | _ => false) = true) (hi : (P.info? ty).map (·.size) = some n)
  (hK : K (a.put o'.dst (.agg (arrv n (fun i => f (o + i))))) w) : o'.wp P a w K Q := by
 unfold Oper.wp execOp
 simp only [ho, hx, Instr.loadAt, Instr.sureAddr, Sem.run_bind, Sem.run_pure, Result.andThen_ok, run_loadVar_sub h o n hon ty d hu hd hi]
 exact hK
open Go in
theorem wpList_load_sub {P : Program} {ops : Array Oper} {rest : List Oper} {o' : Oper} {a : Act} {w : World} {Q : Exit → Act → World → Prop} (hgd : o'.guard = none) (ty : TypeId) (x : Operand) (ho : o'.op = .load ty x)
  (g o n : Nat) (hx : a.eval x = .pointer (some ⟨g, o, none⟩)) {T N : Nat} {f : Nat → Int} (h : Blk w g T N f) (hon : o + n ≤ N) (d : TypeDesc)
  (hu : P.underlying ty = some d) (hd : (match d with | .struct _ | .array _ _ => true | _ => false) = true) (hi : (P.info? ty).map (·.size) = some n)
  (hK : wpList P ops Q rest (a.put o'.dst (.agg (arrv n (fun i => f (o + i))))) w) : wpList P ops Q (o' :: rest) a w :=
 wpList_plain hgd fun _ hk => wp_load_sub ty x ho g o n hx h hon d hu hd hi (hk _ _ hK)
/-- The same inside a region that draws its order. -/
theorem run_load_sub {P : Program} {o' : Oper} {ev : Operand → Value} {w : World} (ty : TypeId) (x : Operand) (ho : o'.op = .load ty x)
  (g o n : Nat) (hx : ev x = .pointer (some ⟨g, o, none⟩)) {T N : Nat} {f : Nat → Int} (h : Blk w g T N f) (hon : o + n ≤ N) (d : TypeDesc)
  (hu : P.underlying ty = some d) (hd : (match d with | .struct _ | .array _ _ => true | _ => false) = true) (hi : (P.info? ty).map (·.size) = some n) :
  (execOp ev o').run P w = .ok (.value (.agg (arrv n (fun i => f (o + i))))) w := by
 unfold execOp
 simp [ho, hx, Instr.loadAt, Instr.sureAddr, Sem.run_bind, run_loadVar_sub h o n hon ty d hu hd hi]
end Go.Proofs.YtgfklheepkgedaaGreat
