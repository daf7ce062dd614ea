/- Contracts of the program's functions and plain laws, part 7: they hold for all arguments. -/
import Derived.Test.YtanmddenleffaaaQ02
import Derived.Test.YtanmddenleffaaaQ06
import Derived.Test.YtanmddenleffaaaQ03
import Derived.Shelf.Spec.BitsCarry
import Derived.Deep.Cut
import Derived.Deep.CutRange
import Derived.Test.YtanmddenleffaaaQ04
/- Contracts of package wide (8): less, minus, Root. -/
namespace Go.Proofs.Ytanmddenleffaaa
open Go.RowKit
set_option maxRecDepth 100000
theorem sub64 (x y b : Nat) (hb : b ≤ 1) (w : World) : (callFunc 93 #[.int .u64 x, .int .u64 y, .int .u64 b]).run Try.prog w =
    .ok (.value (.tuple #[.int .u64 (((x + 18446744073709551616 - y - b) % 18446744073709551616 : Nat) : Int), .int .u64 ((if x < y + b then 1 else 0 : Nat) : Int)])) w := by
  rw [run_callFunc_extern Try.func93 (by kernel_rfl) (by kernel_rfl) (by kernel_rfl) (e := sub64Entry) (by kernel_rfl), run_sub64 x y b hb]
  rfl
/-- Sub64 at whole numbers: what is taken away may be greater. -/
theorem sub64_int (x y b : Int) (x0 : 0 ≤ x) (y0 : 0 ≤ y) (y1 : y < 18446744073709551616) (b0 : 0 ≤ b) (b1 : b ≤ 1) (w : World) : (callFunc 93 #[.int .u64 x, .int .u64 y, .int .u64 b]).run Try.prog w =
    .ok (.value (.tuple #[.int .u64 ((x - y - b) % 18446744073709551616), .int .u64 (if x < y + b then 1 else 0)])) w := by
  obtain ⟨x, rfl⟩ := Int.eq_ofNat_of_zero_le x0
  obtain ⟨y, rfl⟩ := Int.eq_ofNat_of_zero_le y0
  obtain ⟨b, rfl⟩ := Int.eq_ofNat_of_zero_le b0
  rw [sub64 x y b (by omega)]
  have e1 : (((x + 18446744073709551616 - y - b) % 18446744073709551616 : Nat) : Int) = ((x : Int) - y - b) % 18446744073709551616 := by omega
  have e2 : ((if x < y + b then 1 else 0 : Nat) : Int) = if (x : Int) < y + b then 1 else 0 := by
    by_cases h : x < y + b
    · rw [if_pos h, if_pos (by omega)]; rfl
    · rw [if_neg h, if_neg (by omega)]; rfl
  rw [e1, e2]
theorem less_walk (x y u v : Int) (w : World) (r : Bool) (hr : (decide (x < u) || ((x == u) && decide (y < v))) = r) :
    Calls Try.prog 90 #[.agg #[.int .u64 x, .int .u64 y], .agg #[.int .u64 u, .int .u64 v]] w fun e w' =>
      e = .returned (.bool r) ∧ Below w.heap.size w w' := by
  by_cases h1 : x < u
  · have d1 : decide (x < u) = true := by simpa using h1
    rw [d1, Bool.true_or] at hr
    subst hr
    go_enter Try.func90, Try.ntmps90
    go_wp2_with fail
    go_ret
    refine ⟨rfl, ?_⟩
    (repeat (first | with_reducible exact Below.refl _ _ | with_reducible apply Below.drew | (with_reducible refine below_drewN ?_ _) | (with_reducible refine Below.alloc ?_ (by (try simp) <;> omega) _) | (with_reducible refine Below.setCell ?_ (by (try simp) <;> omega) _)))
  · have d1 : decide (x < u) = false := by simpa using h1
    by_cases h2 : x = u
    · subst h2
      by_cases h3 : y < v
      · have d3 : decide (y < v) = true := by simpa using h3
        rw [d1, d3, show (x == x) = true by simp] at hr
        subst hr
        go_enter Try.func90, Try.ntmps90
        go_wp2_with fail
        go_ret
        refine ⟨rfl, ?_⟩
        (repeat (first | with_reducible exact Below.refl _ _ | with_reducible apply Below.drew | (with_reducible refine below_drewN ?_ _) | (with_reducible refine Below.alloc ?_ (by (try simp) <;> omega) _) | (with_reducible refine Below.setCell ?_ (by (try simp) <;> omega) _)))
      · have d3 : decide (y < v) = false := by simpa using h3
        rw [d1, d3, show (x == x) = true by simp] at hr
        subst hr
        go_enter Try.func90, Try.ntmps90
        go_wp2_with fail
        go_ret
        refine ⟨rfl, ?_⟩
        (repeat (first | with_reducible exact Below.refl _ _ | with_reducible apply Below.drew | (with_reducible refine below_drewN ?_ _) | (with_reducible refine Below.alloc ?_ (by (try simp) <;> omega) _) | (with_reducible refine Below.setCell ?_ (by (try simp) <;> omega) _)))
    · have d2 : (x == u) = false := by simpa using h2
      rw [d1, d2] at hr
      subst hr
      go_enter Try.func90, Try.ntmps90
      go_wp2_with fail
      go_ret
      refine ⟨rfl, ?_⟩
      (repeat (first | with_reducible exact Below.refl _ _ | with_reducible apply Below.drew | (with_reducible refine below_drewN ?_ _) | (with_reducible refine Below.alloc ?_ (by (try simp) <;> omega) _) | (with_reducible refine Below.setCell ?_ (by (try simp) <;> omega) _)))
theorem less_any (M N : Int) (w : World) :
    Calls Try.prog 90 #[.agg #[.int .u64 (hi64 M), .int .u64 (lo64 M)], .agg #[.int .u64 (hi64 N), .int .u64 (lo64 N)]] w fun e w' =>
      e = .returned (.bool (decide (M < N))) ∧ Below w.heap.size w w' :=
  less_walk _ _ _ _ w _ (by rw [Bool.eq_iff_iff]; simp; unfold hi64 lo64; omega)
theorem minus_any (M N S : Int) (w : World) (m0 : 0 ≤ M) (m1 : M < 340282366920938463463374607431768211456) (n0 : 0 ≤ N) (hS : M - N = S) (s0 : 0 ≤ S) :
    Calls Try.prog 91 #[.agg #[.int .u64 (hi64 M), .int .u64 (lo64 M)], .agg #[.int .u64 (hi64 N), .int .u64 (lo64 N)]] w fun e w' =>
      e = .returned (.agg #[.int .u64 (hi64 S), .int .u64 (lo64 S)]) ∧ Below w.heap.size w w' := by
  have bM := bits_hl m0 m1
  have bN := bits_hl (M := N) n0 (by omega)
  obtain ⟨br, hbr⟩ : ∃ br : Int, (if lo64 M < lo64 N + 0 then 1 else 0) = br := ⟨_, rfl⟩
  have b01 : 0 ≤ br ∧ br ≤ 1 := by rw [← hbr]; split <;> omega
  have a1 := fun w => sub64_int (lo64 M) (lo64 N) 0 bM.2.2.1 bN.2.2.1 bN.2.2.2 (by decide) (by decide) w
  have a2 := fun w => sub64_int (hi64 M) (hi64 N) br bM.1 bN.1 bN.2.1 b01.1 b01.2 w
  rw [hbr] at a1
  have r1 : (lo64 M - lo64 N - 0) % 18446744073709551616 = lo64 S := by unfold lo64; omega
  have r2 : (hi64 M - hi64 N - br) % 18446744073709551616 = hi64 S := by
    rw [← hbr]; unfold hi64 lo64; split <;> omega
  rw [r1] at a1
  rw [r2] at a2
  obtain ⟨b2, hb2⟩ : ∃ b2 : Int, (if hi64 M < hi64 N + br then 1 else 0) = b2 := ⟨_, rfl⟩
  rw [hb2] at a2
  clear hb2 r1 r2 hbr b01 bM bN hS m0 m1 n0 s0
  go_enter Try.func91, Try.ntmps91
  go_wp2_with fail
  simp [bodyPost, results, Try.results91, go_sem]
  (repeat (first | with_reducible exact Below.refl _ _ | with_reducible apply Below.drew | (with_reducible refine below_drewN ?_ _) | (with_reducible refine Below.alloc ?_ (by (try simp) <;> omega) _) | (with_reducible refine Below.setCell ?_ (by (try simp) <;> omega) _)))
/-- Block b holds a size of 128 bits. -/
def Big (w : World) (b : Nat) (x : Int) : Prop := w.heap[b]? = some (.cells #[.int .u64 (hi64 x), .int .u64 (lo64 x)] 110 (0, 0))
theorem Big.c0 {w : World} {b : Nat} {x : Int} (h : Big w b x) : w.cell? ⟨b, 0, none⟩ = some (.int .u64 (hi64 x)) := by rw [cell_of_row w b 0 _ _ _ h]; rfl
theorem Big.c1 {w : World} {b : Nat} {x : Int} (h : Big w b x) : w.cell? ⟨b, 1, none⟩ = some (.int .u64 (lo64 x)) := by rw [cell_of_row w b 1 _ _ _ h]; rfl
theorem Big.free {w : World} {b : Nat} {x : Int} (h : Big w b x) (i : Nat) : w.frozen? ⟨b, i, none⟩ = false := frozen_of_row w b i _ _ h
theorem Big.lt {w : World} {b : Nat} {x : Int} (h : Big w b x) : b < w.heap.size := World.block_lt_of_cell? w _ h.c0
theorem Big.below {w w' : World} {b : Nat} {x : Int} (h : Big w b x) (hb : Below w.heap.size w w') : Big w' b x := (hb.block b h.lt).trans h
theorem Big.alloc {w : World} {b : Nat} {x : Int} (h : Big w b x) (o : Obj) : Big (w.alloc o) b x := h.below ((Below.refl w.heap.size w).alloc (Nat.le_refl _) o)
theorem Big.new (w : World) (x : Int) : Big (w.alloc (.cells #[.int .u64 (hi64 x), .int .u64 (lo64 x)] 110)) w.heap.size x := heap_alloc_new w _
theorem Big.other {w : World} {b : Nat} {x : Int} (h : Big w b x) {a : Addr} (ha : b ≠ a.block) (v : Value) : Big (w.setCell a v) b x := (heap_setCell_other w a b v ha).trans h
theorem Big.set {w : World} {b : Nat} {x : Int} (h : Big w b x) (y : Int) : Big ((w.setCell ⟨b, 0, none⟩ (.int .u64 (hi64 y))).setCell ⟨b, 1, none⟩ (.int .u64 (lo64 y))) b y := by
  have h1 := heap_setCell_same w b 0 _ _ (.int .u64 (hi64 y)) h
  exact heap_setCell_same _ b 1 _ _ (.int .u64 (lo64 y)) h1
structure RootR (ρ r : Int) (w wr : World) : Prop where
  below : Below w.heap.size w wr
  e : Big wr (w.heap.size + 1) ρ
  r : Big wr (w.heap.size + 1 + 1) r
theorem RootR.bel {ρ r : Int} {w wr w' : World} (s : RootR ρ r w wr) (b : Below wr.heap.size wr w') : RootR ρ r w w' := ⟨Below.after s.below b, s.e.below b, s.r.below b⟩
theorem RootR.setE {ρ r : Int} {w wr : World} (s : RootR ρ r w wr) (y : Int) : RootR y r w ((wr.setCell ⟨w.heap.size + 1, 0, none⟩ (.int .u64 (hi64 y))).setCell ⟨w.heap.size + 1, 1, none⟩ (.int .u64 (lo64 y))) :=
  ⟨(s.below.setCell (by simp) _).setCell (by simp) _, s.e.set y, (s.r.other (by simp) _).other (by simp) _⟩
theorem RootR.setR {ρ r : Int} {w wr : World} (s : RootR ρ r w wr) (y : Int) : RootR ρ y w ((wr.setCell ⟨w.heap.size + 1 + 1, 0, none⟩ (.int .u64 (hi64 y))).setCell ⟨w.heap.size + 1 + 1, 1, none⟩ (.int .u64 (lo64 y))) :=
  ⟨(s.below.setCell (by simp; omega) _).setCell (by simp; omega) _, (s.e.other (by simp) _).other (by simp) _, s.r.set y⟩
theorem RootR.facts {ρ r : Int} {w wr : World} (s : RootR ρ r w wr) : (wr.cell? ⟨w.heap.size + 1, 0, none⟩ = some (.int .u64 (hi64 ρ)) ∧ wr.cell? ⟨w.heap.size + 1, 1, none⟩ = some (.int .u64 (lo64 ρ))) ∧
    (wr.cell? ⟨w.heap.size + 1 + 1, 0, none⟩ = some (.int .u64 (hi64 r)) ∧ wr.cell? ⟨w.heap.size + 1 + 1, 1, none⟩ = some (.int .u64 (lo64 r))) ∧
    (wr.frozen? ⟨w.heap.size + 1, 0, none⟩ = false ∧ wr.frozen? ⟨w.heap.size + 1, 1, none⟩ = false) ∧ (wr.frozen? ⟨w.heap.size + 1 + 1, 0, none⟩ = false ∧ wr.frozen? ⟨w.heap.size + 1 + 1, 1, none⟩ = false) ∧ w.heap.size + 1 + 1 < wr.heap.size :=
  ⟨⟨s.e.c0, s.e.c1⟩, ⟨s.r.c0, s.r.c1⟩, ⟨s.e.free _, s.e.free _⟩, ⟨s.r.free _, s.r.free _⟩, s.r.lt⟩
theorem big_facts {w : World} {b : Nat} {x : Int} (h : Big w b x) : w.cell? ⟨b, 0, none⟩ = some (.int .u64 (hi64 x)) ∧ w.cell? ⟨b, 1, none⟩ = some (.int .u64 (lo64 x)) ∧ b < w.heap.size := ⟨h.c0, h.c1, h.lt⟩
theorem rootT_yes {ρ r q : Nat} (h : ρ < r + q) {k : Nat} (hq : q = 4 ^ k) : rootT (ρ, r) k = (ρ, r / 2) := by
  unfold rootT; rw [← hq]; exact if_pos h
theorem rootT_no {ρ r q : Nat} (h : ¬ ρ < r + q) {k : Nat} (hq : q = 4 ^ k) : rootT (ρ, r) k = (ρ - (r + q), r / 2 + q) := by
  unfold rootT; rw [← hq]; exact if_neg h
set_option maxHeartbeats 8000000 in
theorem wroot_any (A : Int) (w : World) (a0 : 0 ≤ A) (a1 : A < 170141183460469231731687303715884105728) :
    Calls Try.prog 78 #[.agg #[.int .i64 (hi64 A), .int .u64 (lo64 A)]] w fun e w' =>
      e = .returned (.tuple #[.int .i64 (r64V (rootV A.toNat : Nat)), .bool (r64F (rootV A.toNat : Nat))]) ∧ Below w.heap.size w w' := by
  have p127 : (2 : Nat) ^ 127 = 170141183460469231731687303715884105728 := by decide
  have p128 : (2 : Nat) ^ 128 = 340282366920938463463374607431768211456 := by decide
  obtain ⟨N, rfl⟩ := Int.eq_ofNat_of_zero_le a0
  rw [Int.toNat_natCast]
  have HN : Hid (N < 2 ^ 127) := Lib.hid (by omega)
  have d0 : decide (hi64 (N : Int) < 0) = false := by unfold hi64; simp; omega
  have u1 : IntKind.u64.wrap (hi64 (N : Int)) = hi64 (N : Int) := by rw [IntKind.wrap_u64]; unfold hi64; omega
  have P127 := Lib.hid p127
  have P128 := Lib.hid p128
  clear p127 p128 a0 a1
  go_enter Try.func78, Try.ntmps78
  go_wp2_with fail
  go_loopw [6] (fun i wr => ∃ n : Nat, n ≤ 64 ∧ i = .int .i64 (126 - 2 * (n : Int)) ∧ Hid (RootR ((rootS N n).1 : Nat) ((rootS N n).2 : Nat) w wr)) (fun i _ => (intOf i + 2).toNat)
  case atStart =>
    refine ⟨0, by omega, rfl, ⟨by (repeat (first | with_reducible exact Below.refl _ _ | with_reducible apply Below.drew | (with_reducible refine below_drewN ?_ _) | (with_reducible refine Below.alloc ?_ (by (try simp) <;> omega) _) | (with_reducible refine Below.setCell ?_ (by (try simp) <;> omega) _))), ?_, ?_⟩⟩
    · have h := (Big.new (w.alloc (.cells #[.int .i64 (hi64 (N : Int)), .int .u64 (lo64 (N : Int))] 81)) (N : Int)).alloc (.cells #[.int .u64 0, .int .u64 0] 110)
      rwa [show (w.alloc (.cells #[.int .i64 (hi64 (N : Int)), .int .u64 (lo64 (N : Int))] 81)).heap.size = w.heap.size + 1 from by simp] at h
    · have h := Big.new ((w.alloc (.cells #[.int .i64 (hi64 (N : Int)), .int .u64 (lo64 (N : Int))] 81)).alloc (.cells #[.int .u64 (hi64 (N : Int)), .int .u64 (lo64 (N : Int))] 110)) 0
      rwa [show ((w.alloc (.cells #[.int .i64 (hi64 (N : Int)), .int .u64 (lo64 (N : Int))] 81)).alloc (.cells #[.int .u64 (hi64 (N : Int)), .int .u64 (lo64 (N : Int))] 110)).heap.size = w.heap.size + 1 + 1 from by simp] at h
  case round =>
    obtain ⟨n, hn, rfl, R⟩ := hrel
    by_cases hlt : n < 64
    · obtain ⟨b1, b2, b3⟩ := rootS_bd N HN.out n hlt
      have hst : rootS N (n + 1) = rootT (rootS N n) (63 - n) := rfl
      obtain ⟨q, hq⟩ : ∃ q : Nat, 4 ^ (63 - n) = q := ⟨_, rfl⟩
      obtain ⟨ρ, hρ⟩ : ∃ ρ : Nat, (rootS N n).1 = ρ := ⟨_, rfl⟩
      obtain ⟨r, hr⟩ : ∃ r : Nat, (rootS N n).2 = r := ⟨_, rfl⟩
      rw [show rootS N n = (ρ, r) from by rw [← hρ, ← hr]] at hst
      rw [hρ, hr] at R
      rw [hq, hr] at b2
      rw [hρ] at b1
      rw [hr] at b3
      have hsh : (1 : Int) * 2 ^ (126 - 2 * (n : Int)).toNat = (q : Int) := by
        rw [show (126 - 2 * (n : Int)).toNat = 2 * (63 - n) from by omega, Int.one_mul, ← hq, Int.pow_mul]; simp
      obtain ⟨r2, hr2⟩ : ∃ r2 : Nat, r / 2 = r2 := ⟨_, rfl⟩
      obtain ⟨ρ2, hρ2⟩ : ∃ ρ2 : Nat, ρ - (r + q) = ρ2 := ⟨_, rfl⟩
      obtain ⟨r3, hr3⟩ : ∃ r3 : Nat, r2 + q = r3 := ⟨_, rfl⟩
      have hhalf : (r : Int) / 2 ^ (1 : Int).toNat = (r2 : Int) := by rw [← hr2]; simp
      have b6 : r3 < 340282366920938463463374607431768211456 ∧ r2 ≤ r3 := by have := P128.out; omega
      have HR2 := Lib.hid hr2
      have HP2 := Lib.hid hρ2
      have HR3 := Lib.hid hr3
      have HSH := Lib.hid hsh
      have HHF := Lib.hid hhalf
      have HQ := Lib.hid hq
      have HST := Lib.hid hst
      have b4 : ρ < 170141183460469231731687303715884105728 := by have := P127.out; omega
      have b5 : r + q < 340282366920938463463374607431768211456 := by have := P128.out; omega
      have g0 : decide (0 ≤ 126 - 2 * (n : Int)) = true := by simp; omega
      clear hρ hr hq hst hsh hhalf b1 b2 b3 d0 u1 hr2 hρ2 hr3
      obtain ⟨⟨e0, e1⟩, ⟨r0, r1⟩, ⟨fe0, fe1⟩, ⟨fr0, fr1⟩, hsz⟩ := R.out.facts
      go_wp2_with fail
      refine (shl_any 1 (126 - 2 * (n : Int)) q _ (by decide) (by decide) (by omega) (by omega) HSH.out (by omega)).mono ?_; rintro e w1 ⟨rfl, hb1⟩
      have R1 := Lib.hid ((R.out.bel hb1).bel ((Below.refl w1.heap.size w1).alloc (Nat.le_refl _) (.cells #[.int .u64 (hi64 (q : Int)), .int .u64 (lo64 (q : Int))] 110)))
      have Q1 := Lib.hid (Big.new w1 (q : Int))
      have hqn : Hid (w1.heap.size ≠ w.heap.size + 1 + 1) := Lib.hid (by have := hb1.size; omega)
      have hne : Hid (w1.heap.size ≠ w.heap.size + 1) := Lib.hid (by have := hb1.size; omega)
      clear hb1 R e0 e1 r0 r1 fe0 fe1 fr0 fr1
      obtain ⟨⟨e0, e1⟩, ⟨r0, r1⟩, ⟨fe0, fe1⟩, ⟨fr0, fr1⟩, hsz⟩ := R1.out.facts
      obtain ⟨q0, q1, qz⟩ := big_facts Q1.out
      go_upto_region 8 with fail
      obtain ⟨bq, hbq⟩ : ∃ bq, w1.heap.size = bq := ⟨_, rfl⟩
      rw [hbq] at Q1 q0 q1 qz hqn hne ⊢
      generalize w1.alloc (.cells #[.int .u64 (hi64 (q : Int)), .int .u64 (lo64 (q : Int))] 110) = W1 at *
      clear hbq
      have kr := bits_hl (M := (r : Int)) (by omega) (by omega)
      have kq := bits_hl (M := (q : Int)) (by omega) (by omega)
      have lr := hilo (r : Int)
      have lq := hilo (q : Int)
      have PL := Lib.hid (fun w => plus_any _ _ _ _ ((r : Int) + q) w kr.1 kr.2.2.1 kr.2.2.2 kq.1 kq.2.2.1 kq.2.2.2 (by omega) (by omega))
      have SR := Lib.hid (fun w => shr_any _ _ 1 (r : Int) (r2 : Int) w kr.1 kr.2.1 kr.2.2.1 kr.2.2.2 (by decide) (by decide) lr HHF.out)
      clear kr kq lr lq
      go_wp2_with fail
      refine (PL.out _).mono ?_; rintro e w2 ⟨rfl, hb2⟩
      have R2 := Lib.hid ((R1.out.bel hb2).bel ((Below.refl w2.heap.size w2).alloc (Nat.le_refl _) (.cells #[.int .u64 (hi64 ((r : Int) + q)), .int .u64 (lo64 ((r : Int) + q))] 110)))
      have Q2 := Lib.hid ((Q1.out.below hb2).alloc (.cells #[.int .u64 (hi64 ((r : Int) + q)), .int .u64 (lo64 ((r : Int) + q))] 110))
      have X2 := Lib.hid (Big.new w2 ((r : Int) + q))
      have hxn : Hid (w2.heap.size ≠ w.heap.size + 1 + 1) := Lib.hid (by have := hb2.size; omega)
      clear hb2 R1 Q1 e0 e1 r0 r1 fe0 fe1 fr0 fr1 q0 q1 qz hsz
      obtain ⟨⟨e0, e1⟩, ⟨r0, r1⟩, ⟨fe0, fe1⟩, ⟨fr0, fr1⟩, hsz⟩ := R2.out.facts
      obtain ⟨q0, q1, qz⟩ := big_facts Q2.out
      obtain ⟨x0, x1, xz⟩ := big_facts X2.out
      go_upto_region 9 with fail
      obtain ⟨bx, hbx⟩ : ∃ bx, w2.heap.size = bx := ⟨_, rfl⟩
      rw [hbx] at X2 x0 x1 xz hxn ⊢
      generalize w2.alloc (.cells #[.int .u64 (hi64 ((r : Int) + q)), .int .u64 (lo64 ((r : Int) + q))] 110) = W2 at *
      clear hbx
      go_wp2_with fail
      refine (SR.out _).mono ?_; rintro e w3 ⟨rfl, hb3⟩
      have R3' := R2.out.bel hb3
      have R3 := Lib.hid (R3'.setR (r2 : Int))
      have hq3 := hqn.out
      have hx3 := hxn.out
      have Q3 := Lib.hid (((Q2.out.below hb3).other (a := ⟨w.heap.size + 1 + 1, 0, none⟩) hq3 (.int .u64 (hi64 (r2 : Int)))).other (a := ⟨w.heap.size + 1 + 1, 1, none⟩) hq3 (.int .u64 (lo64 (r2 : Int))))
      have X3 := Lib.hid (((X2.out.below hb3).other (a := ⟨w.heap.size + 1 + 1, 0, none⟩) hx3 (.int .u64 (hi64 (r2 : Int)))).other (a := ⟨w.heap.size + 1 + 1, 1, none⟩) hx3 (.int .u64 (lo64 (r2 : Int))))
      clear e0 e1 r0 r1 fe0 fe1 fr0 fr1 q0 q1 qz hsz x0 x1 xz
      obtain ⟨⟨e0, e1⟩, ⟨r0, r1⟩, ⟨fe0, fe1⟩, ⟨fr0, fr1⟩, hsz⟩ := R3'.facts
      clear hb3 R2 Q2 X2 R3' PL SR
      go_upto_region 10 with fail
      generalize (w3.setCell ⟨w.heap.size + 1 + 1, 0, none⟩ (.int .u64 (hi64 (r2 : Int)))).setCell ⟨w.heap.size + 1 + 1, 1, none⟩ (.int .u64 (lo64 (r2 : Int))) = W3 at *
      clear e0 e1 r0 r1 fe0 fe1 fr0 fr1 hsz
      obtain ⟨⟨e0, e1⟩, ⟨r0, r1⟩, ⟨fe0, fe1⟩, ⟨fr0, fr1⟩, hsz⟩ := R3.out.facts
      obtain ⟨q0, q1, qz⟩ := big_facts Q3.out
      obtain ⟨x0, x1, xz⟩ := big_facts X3.out
      have kz : (((r + q : Nat) : Int)) = (r : Int) + q := by omega
      by_cases hd : ρ < r + q
      · have d1 : decide ((ρ : Int) < (r : Int) + q) = true := by simp; omega
        have HT := Lib.hid (rootT_yes hd HQ.out.symm)
        clear kz hd
        go_wp2_with fail
        refine (less_any (ρ : Int) ((r : Int) + q) _).mono ?_; rintro e w4 ⟨rfl, hb4⟩
        have R4 := Lib.hid (R3.out.bel hb4)
        clear hb4 e0 e1 r0 r1 fe0 fe1 fr0 fr1 hsz q0 q1 qz x0 x1 xz
        go_wp2_with fail
        go_roundw
        case rel =>
          refine ⟨n + 1, by omega, by congr 1; omega, ?_⟩
          rw [HST.out, HT.out, HR2.out]
          exact R4.out
        case measure => simp [intOf]; omega
      · have d1 : decide ((ρ : Int) < (r : Int) + q) = false := by simp; omega
        have HT := Lib.hid (rootT_no hd HQ.out.symm)
        have hs : (ρ : Int) - ((r : Int) + q) = (ρ2 : Int) := by have := HP2.out; omega
        have MN := Lib.hid (fun w => minus_any (ρ : Int) ((r : Int) + q) _ w (by omega) (by omega) (by omega) hs (by omega))
        have kr := bits_hl (M := (r2 : Int)) (by omega) (by omega)
        have kq := bits_hl (M := (q : Int)) (by omega) (by omega)
        have lr := hilo (r2 : Int)
        have lq := hilo (q : Int)
        have PL := Lib.hid (fun w => plus_any _ _ _ _ (r3 : Int) w kr.1 kr.2.2.1 kr.2.2.2 kq.1 kq.2.2.1 kq.2.2.2 (by have := HR3.out; omega) (by omega))
        clear kz hd hs kr kq lr lq
        go_wp2_with fail
        refine (less_any (ρ : Int) ((r : Int) + q) _).mono ?_; rintro e w4 ⟨rfl, hb4⟩
        have R4 := Lib.hid (R3.out.bel hb4)
        have Q4 := Lib.hid (Q3.out.below hb4)
        have X4 := Lib.hid (X3.out.below hb4)
        clear hb4 e0 e1 r0 r1 fe0 fe1 fr0 fr1 hsz q0 q1 qz x0 x1 xz
        obtain ⟨⟨e0, e1⟩, ⟨r0, r1⟩, ⟨fe0, fe1⟩, ⟨fr0, fr1⟩, hsz⟩ := R4.out.facts
        obtain ⟨x0, x1, xz⟩ := big_facts X4.out
        go_wp2_with fail
        refine (MN.out _).mono ?_; rintro e w5 ⟨rfl, hb5⟩
        have R5' := R4.out.bel hb5
        have R5 := Lib.hid (R5'.setE (ρ2 : Int))
        have hq5 := hne.out
        have Q5 := Lib.hid (((Q4.out.below hb5).other (a := ⟨w.heap.size + 1, 0, none⟩) hq5 (.int .u64 (hi64 (ρ2 : Int)))).other (a := ⟨w.heap.size + 1, 1, none⟩) hq5 (.int .u64 (lo64 (ρ2 : Int))))
        clear e0 e1 r0 r1 fe0 fe1 fr0 fr1 hsz x0 x1 xz
        obtain ⟨⟨e0, e1⟩, ⟨r0, r1⟩, ⟨fe0, fe1⟩, ⟨fr0, fr1⟩, hsz⟩ := R5'.facts
        clear hb5 R4 Q4 X4 R5' MN hq5
        go_upto_region 12 with fail
        generalize (w5.setCell ⟨w.heap.size + 1, 0, none⟩ (.int .u64 (hi64 (ρ2 : Int)))).setCell ⟨w.heap.size + 1, 1, none⟩ (.int .u64 (lo64 (ρ2 : Int))) = W5 at *
        clear e0 e1 r0 r1 fe0 fe1 fr0 fr1 hsz
        obtain ⟨⟨e0, e1⟩, ⟨r0, r1⟩, ⟨fe0, fe1⟩, ⟨fr0, fr1⟩, hsz⟩ := R5.out.facts
        obtain ⟨q0, q1, qz⟩ := big_facts Q5.out
        go_wp2_with fail
        refine (PL.out _).mono ?_; rintro e w6 ⟨rfl, hb6⟩
        have R6' := R5.out.bel hb6
        have R6 := Lib.hid (R6'.setR (r3 : Int))
        clear e0 e1 r0 r1 fe0 fe1 fr0 fr1 hsz q0 q1 qz
        obtain ⟨⟨e0, e1⟩, ⟨r0, r1⟩, ⟨fe0, fe1⟩, ⟨fr0, fr1⟩, hsz⟩ := R6'.facts
        clear hb6 R5 Q5 R6' PL
        go_wp2_with fail
        go_roundw
        case rel =>
          refine ⟨n + 1, by omega, by congr 1; omega, ?_⟩
          rw [HST.out, HT.out, HR2.out, HP2.out, HR3.out]
          exact R6.out
        case measure => simp [intOf]; omega
    · have hn64 : n = 64 := by omega
      subst hn64
      rw [show (126 - 2 * ((64 : Nat) : Int)) = -2 from rfl]
      obtain ⟨b1, b2⟩ := rootS_end N HN.out
      obtain ⟨ρ, hρ⟩ : ∃ ρ : Nat, (rootS N 64).1 = ρ := ⟨_, rfl⟩
      obtain ⟨r, hr⟩ : ∃ r : Nat, (rootS N 64).2 = r := ⟨_, rfl⟩
      have HV : Hid (rootV N = if r < ρ then r + 1 else r) := by rw [← hρ, ← hr]; exact Lib.hid rfl
      rw [hρ, hr] at R
      rw [hρ] at b1
      rw [hr] at b2
      clear hρ hr d0 u1 hn hlt
      obtain ⟨⟨e0, e1⟩, ⟨r0, r1⟩, ⟨fe0, fe1⟩, ⟨fr0, fr1⟩, hsz⟩ := R.out.facts
      have b2 : r < 18446744073709551616 := by have : (2 : Nat) ^ 64 = 18446744073709551616 := by decide
                                               omega
      by_cases hd : r < ρ
      · have d1 : decide (r < ρ) = true := by simp; omega
        have kr := bits_hl (M := (r : Int)) (by omega) (by omega)
        have k1 := bits_hl (M := (r : Int) + 1) (by omega) (by omega)
        have lr := hilo (r : Int)
        have PL := Lib.hid (fun w => plus_any (hi64 (r : Int)) (lo64 (r : Int)) 0 1 ((r : Int) + 1) w kr.1 kr.2.2.1 kr.2.2.2 (by decide) (by decide) (by decide) (by omega) (by omega))
        have SG := Lib.hid (fun w => signed64_any (hi64 ((r : Int) + 1)) (lo64 ((r : Int) + 1)) false w k1.2.2.1 k1.2.2.2)
        have hs := s64_r64 ((r : Int) + 1) false (by omega) (by omega)
        have HS := Lib.hid hs
        have HV2 : Hid (((rootV N : Nat) : Int) = (r : Int) + 1) := Lib.hid (by rw [HV.out, if_pos hd]; simp)
        clear kr k1 lr hs hd b1 b2
        go_wp2_with fail
        refine (less_any (r : Int) (ρ : Int) _).mono ?_; rintro e w4 ⟨rfl, hb4⟩
        have R4 := Lib.hid (R.out.bel hb4)
        clear hb4 e0 e1 r0 r1 fe0 fe1 fr0 fr1 hsz R
        obtain ⟨⟨e0, e1⟩, ⟨r0, r1⟩, ⟨fe0, fe1⟩, ⟨fr0, fr1⟩, hsz⟩ := R4.out.facts
        go_wp2_with fail
        refine (PL.out _).mono ?_; rintro e w6 ⟨rfl, hb6⟩
        have R6' := R4.out.bel hb6
        have R6 := Lib.hid (R6'.setR ((r : Int) + 1))
        clear e0 e1 r0 r1 fe0 fe1 fr0 fr1 hsz
        obtain ⟨⟨e0, e1⟩, ⟨r0, r1⟩, ⟨fe0, fe1⟩, ⟨fr0, fr1⟩, hsz⟩ := R6'.facts
        clear hb6 R4 R6' PL
        go_upto_region 15 with fail
        generalize (w6.setCell ⟨w.heap.size + 1 + 1, 0, none⟩ (.int .u64 (hi64 ((r : Int) + 1)))).setCell ⟨w.heap.size + 1 + 1, 1, none⟩ (.int .u64 (lo64 ((r : Int) + 1))) = W6 at *
        clear e0 e1 r0 r1 fe0 fe1 fr0 fr1 hsz
        obtain ⟨⟨e0, e1⟩, ⟨r0, r1⟩, ⟨fe0, fe1⟩, ⟨fr0, fr1⟩, hsz⟩ := R6.out.facts
        go_wp2_with fail
        refine (SG.out _).mono ?_; rintro e w7 ⟨rfl, hb7⟩
        have B7 := Lib.hid (R6.out.bel hb7).below
        clear hb7
        go_wp2_with fail
        go_ret2
        refine ⟨?_, B7.out⟩
        rw [HS.out.1, HS.out.2, HV2.out]; rfl
      · have d1 : decide (r < ρ) = false := by simp; omega
        have kr := bits_hl (M := (r : Int)) (by omega) (by omega)
        have SG := Lib.hid (fun w => signed64_any (hi64 (r : Int)) (lo64 (r : Int)) false w kr.2.2.1 kr.2.2.2)
        have hs := s64_r64 (r : Int) false (by omega) (by omega)
        have HS := Lib.hid hs
        have HV2 : Hid (((rootV N : Nat) : Int) = (r : Int)) := Lib.hid (by rw [HV.out, if_neg hd])
        clear kr hs hd b1 b2
        go_wp2_with fail
        refine (less_any (r : Int) (ρ : Int) _).mono ?_; rintro e w4 ⟨rfl, hb4⟩
        have R4 := Lib.hid (R.out.bel hb4)
        clear hb4 e0 e1 r0 r1 fe0 fe1 fr0 fr1 hsz R
        obtain ⟨⟨e0, e1⟩, ⟨r0, r1⟩, ⟨fe0, fe1⟩, ⟨fr0, fr1⟩, hsz⟩ := R4.out.facts
        go_wp2_with fail
        refine (SG.out _).mono ?_; rintro e w7 ⟨rfl, hb7⟩
        have B7 := Lib.hid (R4.out.bel hb7).below
        clear hb7
        go_wp2_with fail
        go_ret2
        refine ⟨?_, B7.out⟩
        rw [HS.out.1, HS.out.2, HV2.out]; rfl
end Go.Proofs.Ytanmddenleffaaa
/- Contract of fx.Add. -/
namespace Go.Proofs.Ytanmddenleffaaa
open Go.RowKit
set_option maxRecDepth 100000
theorem of_any (a : Int) (w : World) (h1 : -9223372036854775808 ≤ a) (h2 : a < 9223372036854775808) :
    Calls Try.prog 85 #[.int .i64 a] w fun e w' => e = .returned (Wv a) ∧ Below w.heap.size w w' := by
  go_enter Try.func85, Try.ntmps85
  go_wp2_with fail
  simp [bodyPost, results, Try.results85, go_sem]
  refine ⟨?_, ?_⟩
  · simp only [Wv, Value.agg.injEq, IntKind.wrap_u64]
    have : a / 9223372036854775808 = hi64 a := by unfold hi64; omega
    rw [this]; rfl
  · (repeat (first | with_reducible exact Below.refl _ _ | with_reducible apply Below.drew | (with_reducible refine below_drewN ?_ _) | (with_reducible refine Below.alloc ?_ (by (try simp) <;> omega) _) | (with_reducible refine Below.setCell ?_ (by (try simp) <;> omega) _)))
/-- wide.Of. -/
theorem wof_any (a : Int) (w : World) (h1 : -9223372036854775808 ≤ a) (h2 : a < 9223372036854775808) :
    Calls Try.prog 85 #[.int .i64 a] w fun e w' => e = .returned (.agg #[.int .i64 (hi64 a), .int .u64 (lo64 a)]) ∧ Below w.heap.size w w' := of_any a w h1 h2
structure AddR (c : Addr) (h : Bool) (A : Nat → Int) (w : World) (k : Nat) (wr : World) : Prop where
  upd : Upd c (h || sumB A k) w wr
  c0 : wr.cell? ⟨w.heap.size, 0, none⟩ = some (.int .i64 (hi64 (sumS A k)))
  c1 : wr.cell? ⟨w.heap.size, 1, none⟩ = some (.int .u64 (lo64 (sumS A k)))
  f0 : wr.frozen? ⟨w.heap.size, 0, none⟩ = false
  f1 : wr.frozen? ⟨w.heap.size, 1, none⟩ = false
  sz : w.heap.size < wr.heap.size
set_option maxHeartbeats 1000000 in
theorem fadd_any (c : Addr) (h : Bool) (A : Nat → Int) (pa oa ca n : Nat) (w : World) (hc : w.cell? c = some (.bool h)) (hf : w.frozen? c = false) (hn : n ≤ 100)
    (hA : ∀ i, i < n → w.cell? ⟨pa, oa + i, none⟩ = some (.int .i64 (A i))) :
    Calls Try.prog 70 #[.pointer (some c), .slice (some ⟨pa, oa, none⟩) n ca] w fun e w' =>
      e = .returned (.int .i64 (satV (sumS A n))) ∧ Upd c (h || sumB A n || satH (sumS A n)) w w' := by
  have hcb := World.block_lt_of_cell? w c hc
  have HA := Lib.hid hA
  have HC := Lib.hid hc
  have HF := Lib.hid hf
  clear hA hc hf
  go_enter Try.func70, Try.ntmps70
  go_wp2_with fail
  go_loopw [12] (fun i wr => ∃ k : Nat, k ≤ n ∧ i = .int .i64 k ∧ Hid (AddR c h A w k wr)) (fun i _ => n - (intOf i).toNat)
  case atStart =>
    refine ⟨0, Nat.zero_le _, rfl, ⟨?_, by simp [sumS, hi64], by simp [sumS, lo64], by simp, by simp, by simp⟩⟩
    rw [show (h || sumB A 0) = h from by simp [sumB]]
    exact Upd.then (Upd.refl HC.out) (by (repeat (first | with_reducible exact Below.refl _ _ | with_reducible apply Below.drew | (with_reducible refine below_drewN ?_ _) | (with_reducible refine Below.alloc ?_ (by (try simp) <;> omega) _) | (with_reducible refine Below.setCell ?_ (by (try simp) <;> omega) _))))
  case round =>
    obtain ⟨k, hk, rfl, R⟩ := hrel
    by_cases hlt : k < n
    · have a0 := HA.out k hlt
      have hsb := sumS_bd A k
      have u := R.out.upd
      have ra : wr.cell? ⟨pa, oa + k, none⟩ = some (.int .i64 (A k)) := (u.cell (World.block_lt_of_cell? w _ a0) (ne_of_cells HC.out a0)).trans a0
      have rc : wr.cell? c = some (.bool (h || sumB A k)) := u.cellc HC.out
      have rf : wr.frozen? c = false := (u.frozen hcb).trans HF.out
      have s0 := R.out.c0
      have s1 := R.out.c1
      have t0 := R.out.f0
      have t1 := R.out.f1
      have n0 := ne_of_cells rc s0
      have sA := satV_bd (A k)
      have RSZ := R.out.sz
      have U2 : Upd c (h || sumB A k || satH (A k)) wr (wr.drew.setCell c (.bool (h || sumB A k || satH (A k)))) := Upd.after (Below.drew (Below.refl _ _)) (Upd.set c _ wr.drew)
      have H2 := Lib.hid U2
      have HU := Lib.hid u
      have HSB := Lib.hid hsb
      have SA := Lib.hid sA
      clear U2 u hsb sA
      have hcS : ∀ o, c ≠ ⟨w.heap.size, o, none⟩ := fun o e => by rw [e] at hcb; simp at hcb
      go_wp2_with fail
      refine wp_region_M (fun w' => w'.cell? ⟨w.heap.size, 0, none⟩ = some (.int .i64 (hi64 (sumS A k))) ∧ w'.cell? ⟨w.heap.size, 1, none⟩ = some (.int .u64 (lo64 (sumS A k)))) 10 (by kernel_rfl) ?_ (fun hHeld => ?_)
      · exact ⟨s0, s1⟩
      refine wpAnyM_take 0 (v := ?_) rfl (by kernel_rfl) (fun _ _ _ h => h) (Or.inl ⟨by rfl, ?_⟩) (by assumption) ?_
      rotate_left
      · (intro wx hSw; (try dsimp only at hSw); go_simp; (try with_reducible rfl))
      (try simp only [Act.put, nA, nB, nC])
      refine wpAnyM_take 1 (v := ?_) rfl (by kernel_rfl) (fun _ _ _ h => h) (Or.inl ⟨by rfl, ?_⟩) (by assumption) ?_
      rotate_left
      · (intro wx hSw; (try dsimp only at hSw); go_simp; (try with_reducible rfl))
      (try simp only [Act.put, nA, nB, nC])
      refine wpAnyM_take 2 (v := ?_) rfl (by kernel_rfl) (fun _ _ _ h => h) (Or.inl ⟨by rfl, ?_⟩) (by assumption) ?_
      rotate_left
      · (intro wx hSw; (try dsimp only at hSw); go_simp; (try with_reducible rfl))
      (try simp only [Act.put, nA, nB, nC])
      refine wpAnyM_oneS 3 rfl (by kernel_rfl) (fun K hK => ?_)
      go_simp
      (refine (sat_any c (h || sumB A k) (A k) wr.drew rc rf).mono ?_); rintro e w' ⟨rfl, rfl⟩
      (try dsimp only)
      (try simp only [Act.put, nA, nB, nC])
      clear hHeld
      refine hK.out _ _ ?_ (fun hHeld => ?_)
      · simp [go_sem, *]
      clear hK K
      (try simp only [Act.put, nA, nB, nC])
      refine wpAnyM_oneS 4 rfl (by kernel_rfl) (fun K hK => ?_)
      go_simp
      (refine (wof_any _ _ (by have := SA.out; omega) (by have := SA.out; omega)).mono ?_); rintro e w3 ⟨rfl, hb3⟩; have U3 : Upd c (h || sumB A k || satH (A k)) wr w3 := Upd.then H2.out hb3; have kp := keep2 U3 s0 s1 n0 (hcS 1); have HU3 := Lib.hid U3; clear U3; have hz3 : w.heap.size < w3.heap.size := by have := HU3.out.size; omega
      (try dsimp only)
      (try simp only [Act.put, nA, nB, nC])
      clear hHeld
      refine hK.out _ _ ?_ (fun hHeld => ?_)
      · exact kp
      clear hK K
      (try simp only [Act.put, nA, nB, nC])
      refine wpAnyM_oneS 5 rfl (by kernel_rfl) (fun K hK => ?_)
      go_simp
      clear hHeld
      refine hK.out _ _ ?_ (fun hHeld => ?_)
      · obtain ⟨e1, e2⟩ := kp; simp [World.cell?_alloc_some, e1, e2]
      clear hK K
      (try simp only [Act.put, nA, nB, nC])
      refine wpAnyM_oneS 6 rfl (by kernel_rfl) (fun K hK => ?_)
      go_simp
      (refine (wadd2_any (sumS A k) (satV (A k)) (sumS A (k + 1)) w3.heap.size 2 _ (by have := HSB.out; omega) (by have := HSB.out; omega) (by have := SA.out; omega) (by have := SA.out; omega) rfl (by have := HSB.out; have := SA.out; simp only [sumS]; omega) (by have := HSB.out; have := SA.out; simp only [sumS]; omega) (by simp) (by simp) (by simp) (by simp)).mono ?_); rintro e w4 ⟨rfl, hb4⟩; have U4 : Upd c (h || sumB A k || satH (A k)) wr w4 := Upd.then (Upd.alloc HU3.out _) hb4; have kp2 := keep2 U4 s0 s1 n0 (hcS 1); have fz0 : w4.frozen? ⟨w.heap.size, 0, none⟩ = false := (U4.frozen RSZ).trans t0; have fz1 : w4.frozen? ⟨w.heap.size, 1, none⟩ = false := (U4.frozen RSZ).trans t1; have HU4 := Lib.hid U4; clear U4; obtain ⟨y0, y1⟩ := kp2
      (try dsimp only)
      (try simp only [Act.put, nA, nB, nC])
      clear hHeld
      refine hK.out _ _ ?_ (fun hHeld => ?_)
      · exact ⟨y0, y1⟩
      clear hK K
      (try simp only [Act.put, nA, nB, nC])
      refine wpAnyM_take 7 (v := ?_) rfl (by kernel_rfl) (fun _ _ _ h => h) (Or.inl ⟨by rfl, ?_⟩) (by assumption) ?_
      rotate_left
      · (intro wx hSw; (try dsimp only at hSw); go_simp; (try with_reducible rfl))
      (try simp only [Act.put, nA, nB, nC])
      refine wpAnyM_take 8 (v := ?_) rfl (by kernel_rfl) (fun _ _ _ h => h) (Or.inl ⟨by rfl, ?_⟩) (by assumption) ?_
      rotate_left
      · (intro wx hSw; (try dsimp only at hSw); go_simp; (try with_reducible rfl))
      (try simp only [Act.put, nA, nB, nC])
      refine wpAnyM_takeW 9 (v := ?_) rfl (by kernel_rfl) (fun _ _ _ h => h) (Or.inl ⟨by rfl, ?_⟩) (.inr (by assumption)) ?_
      rotate_left
      · (intro wx hSw; (try dsimp only at hSw); go_simp; (try with_reducible rfl))
      (try simp only [Act.put, nA, nB, nC])
      refine wpAnyM_one 10 rfl (by kernel_rfl) (fun K hK => ?_)
      go_simp
      refine hK.out _ _ (.inl (by kernel_rfl)) (fun _ => ?_)
      clear hK K
      (try simp only [Act.put, nA, nB, nC])
      refine wpAnyM_done (by kernel_rfl) ?_ _
      go_wp2_with fail
      go_roundw
      case rel =>
        refine ⟨k + 1, by omega, by go_num, ?_⟩
        have U := HU.out.trans HU4.out
        have tc := two_cells y0 y1 (.int .i64 (hi64 (sumS A (k + 1)))) (.int .u64 (lo64 (sumS A (k + 1))))
        refine ⟨?_, tc.1, tc.2, by rw [World.frozen?_setCell, World.frozen?_setCell]; exact fz0, by rw [World.frozen?_setCell, World.frozen?_setCell]; exact fz1, ?_⟩
        · rw [show (h || sumB A (k + 1)) = (h || sumB A k || satH (A k)) from by simp [sumB, Bool.or_assoc]]
          exact (U.setCell (Nat.le_refl _) _).setCell (Nat.le_refl _) _
        · have := HU4.out.size; simp [World.setCell]; omega
      case measure => simp [intOf]; omega
    · have hkn : k = n := by omega
      subst hkn
      have u := R.out.upd
      have sb := sumS_bd A k
      have rc : wr.cell? c = some (.bool (h || sumB A k)) := u.cellc HC.out
      have rf : wr.frozen? c = false := (u.frozen hcb).trans HF.out
      have s0 := R.out.c0
      have s1 := R.out.c1
      have RSZ := R.out.sz
      have HS := Lib.hid sb
      have HU := Lib.hid u
      clear u sb
      go_wp2_with fail
      refine (round_any (sumS A k) 0 _ (by decide) (by decide) (by have := HS.out; omega) (by have := HS.out; omega)).mono ?_; rintro e w5 ⟨rfl, hb5⟩
      have rc5 : w5.cell? c = some (.bool (h || sumB A k)) := (hb5.cell (World.block_lt_of_cell? _ _ rc)).trans rc
      have rf5 : w5.frozen? c = false := (hb5.frozen (World.block_lt_of_cell? _ _ rc)).trans rf
      have s5 : w5.cell? ⟨w.heap.size, 0, none⟩ = some (.int .i64 (hi64 (sumS A k))) := (hb5.cell RSZ).trans s0
      have H5 := Lib.hid hb5
      clear hb5 rc rf s0 s1
      go_wp2_with fail
      refine (end_any c _ (rsh (sumS A k) 0) _ _ rc5 rf5 (fun hn => by rw [hi_neg]; exact rsh_neg _ _ hn)).mono ?_; rintro e w6 ⟨rfl, rfl⟩
      go_wp2_with fail
      go_ret
      rw [rsh_zero]
      exact ⟨rfl, HU.out.trans (Upd.after H5.out (Upd.set c _ _))⟩
end Go.Proofs.Ytanmddenleffaaa
/- Plain numbers: Unit's answer has the length One, whatever is given; and when it raises no flag. No program. -/
namespace Go.Proofs.Ytanmddenleffaaa
theorem dot4 (A : Nat → Int) : dotS A A 4 = satV (A 0) * satV (A 0) + satV (A 1) * satV (A 1) + satV (A 2) * satV (A 2) + satV (A 3) * satV (A 3) := by
  simp [dotS]
/-- The root of a sum of squares, as a whole number. -/
theorem root_int (S : Int) (h0 : 0 ≤ S) (h1 : S < 340282366920938463463374607431768211456) (R : Int) (hR : ((rootV S.toNat : Nat) : Int) = R) :
    0 ≤ R ∧ (R = 0 ∨ R * R < S + R) ∧ S ≤ R * R + R := by
  obtain ⟨n, rfl⟩ := Int.eq_ofNat_of_zero_le h0
  have e : (2 : Nat) ^ 128 = 340282366920938463463374607431768211456 := by decide
  obtain ⟨a, b⟩ := rootV_spec n (by omega)
  rw [Int.toNat_natCast] at hR
  generalize rootV n = r at *
  subst hR
  refine ⟨Int.natCast_nonneg _, ?_, ?_⟩
  · rcases a with a | a
    · exact .inl (by exact_mod_cast a)
    · exact .inr (by exact_mod_cast a)
  · exact_mod_cast b
theorem sq_le {a B : Int} (hB : 0 ≤ B) (h1 : -B ≤ a) (h2 : a ≤ B) : a * a ≤ B * B := by
  have k1 : 0 ≤ (B - a) * (B + a) := Int.mul_nonneg (by omega) (by omega)
  have e1 : (B - a) * (B + a) = B * B - a * a := by grind
  omega
/-- The first turn: from numbers within Max. -/
theorem uni_first {a0 a1 a2 a3 q0 q1 q2 q3 n R : Int} (hR0 : 0 ≤ R)
    (m0 : -1152921504606846976 ≤ a0 ∧ a0 ≤ 1152921504606846976) (m1 : -1152921504606846976 ≤ a1 ∧ a1 ≤ 1152921504606846976) (m2 : -1152921504606846976 ≤ a2 ∧ a2 ≤ 1152921504606846976) (m3 : -1152921504606846976 ≤ a3 ∧ a3 ≤ 1152921504606846976)
    (hz : ¬ (a0 = 0 ∧ a1 = 0 ∧ a2 = 0 ∧ a3 = 0))
    (r1 : R = 0 ∨ R * R < a0 * a0 + a1 * a1 + a2 * a2 + a3 * a3 + R) (r2 : a0 * a0 + a1 * a1 + a2 * a2 + a3 * a3 ≤ R * R + R)
    (hn : n = if 1152921504606846976 < R then 1152921504606846976 else R) 
    (d0 : q0 = rdiv (a0 * 1073741824) n) (d1 : q1 = rdiv (a1 * 1073741824) n) (d2 : q2 = rdiv (a2 * 1073741824) n) (d3 : q3 = rdiv (a3 * 1073741824) n) :
    0 < n ∧ (-1073741824 ≤ q0 ∧ q0 ≤ 1073741824) ∧ (-1073741824 ≤ q1 ∧ q1 ≤ 1073741824) ∧ (-1073741824 ≤ q2 ∧ q2 ≤ 1073741824) ∧ (-1073741824 ≤ q3 ∧ q3 ≤ 1073741824) ∧
    576460752303423488 ≤ q0 * q0 + q1 * q1 + q2 * q2 + q3 * q3 := by
  have s0 := sq_nonneg a0
  have s1 := sq_nonneg a1
  have s2 := sq_nonneg a2
  have s3 := sq_nonneg a3
  have hR : 1 ≤ R := by
    rcases int_lt_or_ge 0 R with h | h
    · omega
    · exfalso
      obtain rfl : R = 0 := by omega
      have p : ∀ x : Int, x * x = 0 → x = 0 := fun x h => by rcases Int.mul_eq_zero.1 h with h | h <;> exact h
      exact hz ⟨p a0 (by omega), p a1 (by omega), p a2 (by omega), p a3 (by omega)⟩
  have k0 : n ≤ R := by rw [hn]; split <;> omega
  have hn0 : 0 < n := by rw [hn]; split <;> omega
  have le : ∀ a : Int, -1152921504606846976 ≤ a → a ≤ 1152921504606846976 → a * a ≤ R * R + R → -n ≤ a ∧ a ≤ n := fun a h1 h2 h3 => by
    have := abs_le_of_sq hR0 h3
    rw [hn]; split <;> omega
  have l0 := le a0 m0.1 m0.2 (by omega)
  have l1 := le a1 m1.1 m1.2 (by omega)
  have l2 := le a2 m2.1 m2.2 (by omega)
  have l3 := le a3 m3.1 m3.2 (by omega)
  have v0 := rdivU_le (a := a0 * 1073741824) (B := 1073741824) hn0 (by omega) (by omega)
  have v1 := rdivU_le (a := a1 * 1073741824) (B := 1073741824) hn0 (by omega) (by omega)
  have v2 := rdivU_le (a := a2 * 1073741824) (B := 1073741824) hn0 (by omega) (by omega)
  have v3 := rdivU_le (a := a3 * 1073741824) (B := 1073741824) hn0 (by omega) (by omega)
  have u0 := rdivU_err (a0 * 1073741824) n hn0
  have u1 := rdivU_err (a1 * 1073741824) n hn0
  have u2 := rdivU_err (a2 * 1073741824) n hn0
  have u3 := rdivU_err (a3 * 1073741824) n hn0
  rw [← d0] at u0 v0
  rw [← d1] at u1 v1
  rw [← d2] at u2 v2
  rw [← d3] at u3 v3
  refine ⟨hn0, v0, v1, v2, v3, ?_⟩
  have st := (uni_step hn0 hR0 u0 u1 u2 u3 r2).1
  clear u0 u1 u2 u3 d0 d1 d2 d3 v0 v1 v2 v3 l0 l1 l2 l3 le m0 m1 m2 m3 hz s0 s1 s2 s3
  generalize q0 * q0 + q1 * q1 + q2 * q2 + q3 * q3 = T at *
  generalize a0 * a0 + a1 * a1 + a2 * a2 + a3 * a3 = S at *
  rcases int_lt_or_ge T 576460752303423488 with h | h
  · exfalso
    have h1 : T * (n * n) ≤ 576460752303423487 * (n * n) := Int.mul_le_mul_of_nonneg_right (by omega) (sq_nonneg n)
    by_cases hc : 1152921504606846976 < R
    · rw [if_pos hc] at hn
      subst hn
      have h2 : 1152921504606846977 * R ≤ R * R := Int.mul_le_mul_of_nonneg_right (by omega) hR0
      omega
    · rw [if_neg hc] at hn
      obtain rfl : R = n := hn.symm
      have h2 : 0 ≤ (R - 2) * (R - 2) := sq_nonneg _
      have e2 : (R - 2) * (R - 2) = R * R - 4 * R + 4 := by grind
      have h3 : 1 * 1 ≤ R * R := Int.mul_le_mul hR hR (by omega) hR0
      omega
  · exact h
/-- The second turn. -/
theorem uni_second {q0 q1 q2 q3 t0 t1 t2 t3 R : Int} (hR0 : 0 ≤ R)
    (m0 : -1073741824 ≤ q0 ∧ q0 ≤ 1073741824) (m1 : -1073741824 ≤ q1 ∧ q1 ≤ 1073741824) (m2 : -1073741824 ≤ q2 ∧ q2 ≤ 1073741824) (m3 : -1073741824 ≤ q3 ∧ q3 ≤ 1073741824)
    (hT : 576460752303423488 ≤ q0 * q0 + q1 * q1 + q2 * q2 + q3 * q3)
    (r1 : R = 0 ∨ R * R < q0 * q0 + q1 * q1 + q2 * q2 + q3 * q3 + R) (r2 : q0 * q0 + q1 * q1 + q2 * q2 + q3 * q3 ≤ R * R + R)
    (d0 : t0 = rdiv (q0 * 1073741824) R) (d1 : t1 = rdiv (q1 * 1073741824) R) (d2 : t2 = rdiv (q2 * 1073741824) R) (d3 : t3 = rdiv (q3 * 1073741824) R) :
    (0 < R ∧ R ≤ 2147483648) ∧ (-1073741824 ≤ t0 ∧ t0 ≤ 1073741824) ∧ (-1073741824 ≤ t1 ∧ t1 ≤ 1073741824) ∧ (-1073741824 ≤ t2 ∧ t2 ≤ 1073741824) ∧ (-1073741824 ≤ t3 ∧ t3 ≤ 1073741824) ∧
    -4294967296 ≤ t0 * t0 + t1 * t1 + t2 * t2 + t3 * t3 - 1152921504606846976 ∧ t0 * t0 + t1 * t1 + t2 * t2 + t3 * t3 - 1152921504606846976 ≤ 4294967296 := by
  have s0 := sq_nonneg q0
  have s1 := sq_nonneg q1
  have s2 := sq_nonneg q2
  have s3 := sq_nonneg q3
  have w0 := sq_le (by decide) m0.1 m0.2
  have w1 := sq_le (by decide) m1.1 m1.2
  have w2 := sq_le (by decide) m2.1 m2.2
  have w3 := sq_le (by decide) m3.1 m3.2
  have lo : 759250124 < R := by
    rcases int_lt_or_ge 759250124 R with h | h
    · exact h
    · exfalso
      have := sq_le (a := R) (B := 759250124) (by decide) (by omega) h
      omega
  have hi : R ≤ 2147483648 := by
    rcases int_lt_or_ge 2147483648 R with h | h
    · exfalso
      have h2 : 2147483649 * R ≤ R * R := Int.mul_le_mul_of_nonneg_right (by omega) hR0
      omega
    · exact h
  have hn0 : 0 < R := by omega
  have l0 := abs_le_of_sq (a := q0) hR0 (by omega)
  have l1 := abs_le_of_sq (a := q1) hR0 (by omega)
  have l2 := abs_le_of_sq (a := q2) hR0 (by omega)
  have l3 := abs_le_of_sq (a := q3) hR0 (by omega)
  have v0 := rdivU_le (a := q0 * 1073741824) (B := 1073741824) hn0 (by omega) (by omega)
  have v1 := rdivU_le (a := q1 * 1073741824) (B := 1073741824) hn0 (by omega) (by omega)
  have v2 := rdivU_le (a := q2 * 1073741824) (B := 1073741824) hn0 (by omega) (by omega)
  have v3 := rdivU_le (a := q3 * 1073741824) (B := 1073741824) hn0 (by omega) (by omega)
  have u0 := rdivU_err (q0 * 1073741824) R hn0
  have u1 := rdivU_err (q1 * 1073741824) R hn0
  have u2 := rdivU_err (q2 * 1073741824) R hn0
  have u3 := rdivU_err (q3 * 1073741824) R hn0
  rw [← d0] at u0 v0
  rw [← d1] at u1 v1
  rw [← d2] at u2 v2
  rw [← d3] at u3 v3
  refine ⟨⟨hn0, hi⟩, v0, v1, v2, v3, ?_⟩
  obtain ⟨st1, st2⟩ := uni_step hn0 hR0 u0 u1 u2 u3 r2
  clear u0 u1 u2 u3 d0 d1 d2 d3 v0 v1 v2 v3 l0 l1 l2 l3 m0 m1 m2 m3 s0 s1 s2 s3 w0 w1 w2 w3
  generalize t0 * t0 + t1 * t1 + t2 * t2 + t3 * t3 = X at *
  generalize q0 * q0 + q1 * q1 + q2 * q2 + q3 * q3 = T at *
  have hl : 759250125 * R ≤ R * R := Int.mul_le_mul_of_nonneg_right (by omega) hR0
  have r1' : R * R < T + R := by omega
  constructor
  · rcases int_lt_or_ge (X - 1152921504606846976) (-4294967296) with h | h
    · exfalso
      have h1 : X * (R * R) ≤ (1152921504606846976 - 4294967297) * (R * R) := Int.mul_le_mul_of_nonneg_right (by omega) (sq_nonneg R)
      omega
    · exact h
  · rcases int_lt_or_ge 4294967296 (X - 1152921504606846976) with h | h
    · exfalso
      have h1 : (1152921504606846976 + 4294967297) * (R * R) ≤ X * (R * R) := Int.mul_le_mul_of_nonneg_right (by omega) (sq_nonneg R)
      omega
    · exact h
/-- One turn as numbers, where no clamp comes up. -/
theorem hyp_root (A : Nat → Int) (hA : ∀ i, i < 4 → -1152921504606846976 ≤ A i ∧ A i ≤ 1152921504606846976) (R : Int) (hR : ((rootV (dotS A A 4).toNat : Nat) : Int) = R) :
    0 ≤ R ∧ (R = 0 ∨ R * R < A 0 * A 0 + A 1 * A 1 + A 2 * A 2 + A 3 * A 3 + R) ∧ A 0 * A 0 + A 1 * A 1 + A 2 * A 2 + A 3 * A 3 ≤ R * R + R ∧ hypV A 4 = if 1152921504606846976 < R then 1152921504606846976 else R := by
  have e : ∀ i, i < 4 → satV (A i) = A i := fun i hi => satV_id (hA i hi).1 (hA i hi).2
  have hd : dotS A A 4 = A 0 * A 0 + A 1 * A 1 + A 2 * A 2 + A 3 * A 3 := by
    rw [dot4, e 0 (by decide), e 1 (by decide), e 2 (by decide), e 3 (by decide)]
  have w : ∀ i, i < 4 → 0 ≤ A i * A i ∧ A i * A i ≤ 1152921504606846976 * 1152921504606846976 := fun i hi => ⟨sq_nonneg _, sq_le (by decide) (hA i hi).1 (hA i hi).2⟩
  have w0 := w 0 (by decide)
  have w1 := w 1 (by decide)
  have w2 := w 2 (by decide)
  have w3 := w 3 (by decide)
  obtain ⟨a, b, c⟩ := root_int (dotS A A 4) (by rw [hd]; omega) (by rw [hd]; omega) R hR
  rw [hd] at b c
  refine ⟨a, b, c, ?_⟩
  unfold hypV
  rw [hR]
  unfold satV clampV
  rw [if_neg (by decide), if_neg (by omega)]
theorem divV_q (a n : Int) (ha : -1152921504606846976 ≤ a ∧ a ≤ 1152921504606846976) (hn : 0 < n ∧ n ≤ 1152921504606846976) (h : -1152921504606846976 ≤ rdiv (a * 1073741824) n ∧ rdiv (a * 1073741824) n ≤ 1152921504606846976) :
    divV a n 30 = rdiv (a * 1073741824) n ∧ divH a n 30 = false := by
  unfold divV divH byV byH
  rw [satV_id ha.1 ha.2, satV_id (a := n) (by omega) hn.2]
  rw [show ((2 : Int) ^ (30 : Int).toNat) = 1073741824 from rfl]
  rw [if_neg (by decide), if_neg (by omega)]
  refine ⟨satV_id h.1 h.2, ?_⟩
  rw [satH_no ha.1 ha.2, satH_no (a := n) (by omega) hn.2, satH_no h.1 h.2]
  simp; omega
theorem zer4_no {A : Nat → Int} (h : ¬ zer4 A = true) : ¬ (A 0 = 0 ∧ A 1 = 0 ∧ A 2 = 0 ∧ A 3 = 0) := by
  rintro ⟨a, b, c, d⟩
  exact h (by simp [zer4, a, b, c, d])
theorem wide_of {x : Int} (h : -1073741824 ≤ x ∧ x ≤ 1073741824) : -1152921504606846976 ≤ x ∧ x ≤ 1152921504606846976 := by omega
theorem wide_16 {x : Int} (h : -1073741824 ≤ x ∧ x ≤ 1073741824) : -1073741840 ≤ x ∧ x ≤ 1073741840 := by omega
/-- The first turn, once more. -/
theorem uni_one (B : Nat → Int) (hB : ∀ i, i < 4 → -1152921504606846976 ≤ B i ∧ B i ≤ 1152921504606846976) (hz : ¬ (B 0 = 0 ∧ B 1 = 0 ∧ B 2 = 0 ∧ B 3 = 0)) :
    (∀ i, i < 4 → -1073741824 ≤ uniT B i ∧ uniT B i ≤ 1073741824) ∧ 576460752303423488 ≤ uniT B 0 * uniT B 0 + uniT B 1 * uniT B 1 + uniT B 2 * uniT B 2 + uniT B 3 * uniT B 3 ∧
    (uniTH B = decide (1152921504606846976 < ((rootV (dotS B B 4).toNat : Nat) : Int))) := by
  obtain ⟨R, hR⟩ : ∃ R : Int, ((rootV (dotS B B 4).toNat : Nat) : Int) = R := ⟨_, rfl⟩
  obtain ⟨a1, a2, a3, a4⟩ := hyp_root B hB R hR
  obtain ⟨n, hn⟩ : ∃ n, hypV B 4 = n := ⟨_, rfl⟩
  rw [hn] at a4
  obtain ⟨n0, f0, f1, f2, f3, fT⟩ := uni_first a1 (hB 0 (by decide)) (hB 1 (by decide)) (hB 2 (by decide)) (hB 3 (by decide)) hz a2 a3 a4 rfl rfl rfl rfl
  have n1 : n ≤ 1152921504606846976 := by rw [a4]; clear a2 a3 f0 f1 f2 f3 fT; split <;> omega
  have f : ∀ i, i < 4 → -1073741824 ≤ rdiv (B i * 1073741824) n ∧ rdiv (B i * 1073741824) n ≤ 1073741824 := fun i hi => by
    obtain rfl | rfl | rfl | rfl : i = 0 ∨ i = 1 ∨ i = 2 ∨ i = 3 := by clear a2 a3 a4 f0 f1 f2 f3 fT; omega
    · exact f0
    · exact f1
    · exact f2
    · exact f3
  have e : ∀ i, i < 4 → uniT B i = rdiv (B i * 1073741824) n ∧ divH (B i) n 30 = false := fun i hi => by
    unfold uniT
    rw [hn]
    exact divV_q _ _ (hB i hi) ⟨n0, n1⟩ (wide_of (f i hi))
  refine ⟨fun i hi => by rw [(e i hi).1]; exact f i hi, ?_, ?_⟩
  · rw [(e 0 (by decide)).1, (e 1 (by decide)).1, (e 2 (by decide)).1, (e 3 (by decide)).1]; exact fT
  · have hs : ∀ i, i < 4 → satH (B i) = false := fun i hi => satH_no (hB i hi).1 (hB i hi).2
    unfold uniTH hypH
    rw [hn, hR]
    simp only [orB, hs 0 (by decide), hs 1 (by decide), hs 2 (by decide), hs 3 (by decide), (e 0 (by decide)).2, (e 1 (by decide)).2, (e 2 (by decide)).2, (e 3 (by decide)).2, Bool.or_false, Bool.false_or]
    clear a2 a3 a4 f0 f1 f2 f3 fT e f hs hB hz
    unfold satH clampH
    rw [Bool.eq_iff_iff]; simp; omega
/-- The second turn, once more. -/
theorem uni_two (T : Nat → Int) (q : ∀ i, i < 4 → -1073741824 ≤ T i ∧ T i ≤ 1073741824) (hT : 576460752303423488 ≤ T 0 * T 0 + T 1 * T 1 + T 2 * T 2 + T 3 * T 3) :
    (∀ i, i < 4 → -1073741824 ≤ uniT T i ∧ uniT T i ≤ 1073741824) ∧ UnitQ (uniT T) ∧ uniTH T = false := by
  obtain ⟨R2, hR2⟩ : ∃ R : Int, ((rootV (dotS T T 4).toNat : Nat) : Int) = R := ⟨_, rfl⟩
  obtain ⟨b1, b2, b3, b4⟩ := hyp_root T (fun i hi => wide_of (q i hi)) R2 hR2
  obtain ⟨⟨g0, g1⟩, t0, t1, t2, t3, tS1, tS2⟩ := uni_second b1 (q 0 (by decide)) (q 1 (by decide)) (q 2 (by decide)) (q 3 (by decide)) hT b2 b3 rfl rfl rfl rfl
  have g2 : R2 ≤ 1152921504606846976 := by clear b2 b3 b4 t0 t1 t2 t3 tS1 tS2 hT; omega
  have g3 : ¬ 1152921504606846976 < R2 := by clear b2 b3 b4 t0 t1 t2 t3 tS1 tS2 hT; omega
  rw [if_neg g3] at b4
  have g : ∀ i, i < 4 → -1073741824 ≤ rdiv (T i * 1073741824) R2 ∧ rdiv (T i * 1073741824) R2 ≤ 1073741824 := fun i hi => by
    obtain rfl | rfl | rfl | rfl : i = 0 ∨ i = 1 ∨ i = 2 ∨ i = 3 := by clear b2 b3 b4 t0 t1 t2 t3 tS1 tS2 hT; omega
    · exact t0
    · exact t1
    · exact t2
    · exact t3
  have e : ∀ i, i < 4 → uniT T i = rdiv (T i * 1073741824) R2 ∧ divH (T i) R2 30 = false := fun i hi => by
    unfold uniT
    rw [b4]
    exact divV_q _ _ (wide_of (q i hi)) ⟨g0, g2⟩ (wide_of (g i hi))
  refine ⟨fun i hi => by rw [(e i hi).1]; exact g i hi, ⟨fun i hi => by rw [(e i hi).1]; exact wide_16 (g i hi), ?_, ?_⟩, ?_⟩
  · rw [(e 0 (by decide)).1, (e 1 (by decide)).1, (e 2 (by decide)).1, (e 3 (by decide)).1]; exact tS1
  · rw [(e 0 (by decide)).1, (e 1 (by decide)).1, (e 2 (by decide)).1, (e 3 (by decide)).1]; exact tS2
  · have hs : ∀ i, i < 4 → satH (T i) = false := fun i hi => satH_no (wide_of (q i hi)).1 (wide_of (q i hi)).2
    unfold uniTH hypH
    rw [b4, hR2]
    simp only [orB, hs 0 (by decide), hs 1 (by decide), hs 2 (by decide), hs 3 (by decide), (e 0 (by decide)).2, (e 1 (by decide)).2, (e 2 (by decide)).2, (e 3 (by decide)).2, Bool.or_false, Bool.false_or]
    exact satH_no (by clear b2 b3 b4 t0 t1 t2 t3 tS1 tS2 hT; omega) g2
/-- Both turns. -/
theorem uni_both (B : Nat → Int) (hB : ∀ i, i < 4 → -1152921504606846976 ≤ B i ∧ B i ≤ 1152921504606846976) (hz : ¬ (B 0 = 0 ∧ B 1 = 0 ∧ B 2 = 0 ∧ B 3 = 0)) :
    UnitQ (uniT (uniT B)) ∧ (uniTH B = decide (1152921504606846976 < ((rootV (dotS B B 4).toNat : Nat) : Int))) ∧ uniTH (uniT B) = false := by
  obtain ⟨q, hT, h1⟩ := uni_one B hB hz
  obtain ⟨_, u, h2⟩ := uni_two (uniT B) q hT
  exact ⟨u, h1, h2⟩
theorem unit_oneQ : UnitQ oneQ := by
  refine ⟨fun i _ => ?_, by decide, by decide⟩
  unfold oneQ; split <;> omega
/-- Unit's answer is good, whatever is given. -/
theorem unit_good (A : Nat → Int) : UnitQ (uniV A) := by
  unfold uniV
  by_cases h : zer4 (satA A) = true
  · rw [if_pos h]; exact unit_oneQ
  · rw [if_neg h]
    exact (uni_both (satA A) (fun i _ => satV_bd _) (zer4_no h)).1
end Go.Proofs.Ytanmddenleffaaa
