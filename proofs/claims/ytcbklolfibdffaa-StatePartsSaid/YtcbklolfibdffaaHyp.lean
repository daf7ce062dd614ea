/- Contracts of package root: end, Hypot. -/
import Derived.Test.YtcbklolfibdffaaWide8
import Derived.Test.YtcbklolfibdffaaFadd
import Derived.Test.YtcbklolfibdffaaUnitL
namespace Go.Proofs.Ytcbklolfibdffaa
open Go.RowKit
set_option maxRecDepth 100000
theorem rootV_63 (A : Int) (a0 : 0 ≤ A) (a1 : A ≤ 85070591730234615865843651857942052864) : 0 ≤ ((rootV A.toNat : Nat) : Int) ∧ ((rootV A.toNat : Nat) : Int) ≤ 9223372036854775808 := by
  obtain ⟨R, hR⟩ : ∃ R : Int, ((rootV A.toNat : Nat) : Int) = R := ⟨_, rfl⟩
  obtain ⟨b1, b2, b3⟩ := root_int A a0 (by omega) R hR
  rw [hR]
  refine ⟨b1, ?_⟩
  rcases int_lt_or_ge 9223372036854775808 R with h | h
  · exfalso
    have h2 : 9223372036854775809 * R ≤ R * R := Int.mul_le_mul_of_nonneg_right (by omega) b1
    omega
  · exact h
theorem rend_ok (c : Addr) (h : Bool) (A v : Int) (w : World) (hc : w.cell? c = some (.bool h)) (hf : w.frozen? c = false)
    (hr : ∀ w, Calls Try.prog 47 #[.agg #[.int .i64 (hi64 A), .int .u64 (lo64 A)]] w fun e w' => e = .returned (.tuple #[.int .i64 v, .bool true]) ∧ Below w.heap.size w w') :
    Calls Try.prog 42 #[.pointer (some c), .agg #[.int .i64 (hi64 A), .int .u64 (lo64 A)]] w fun e w' => e = .returned (.int .i64 (satV v)) ∧ Upd c (h || satH v) w w' := by
  have hcb := World.block_lt_of_cell? w c hc
  have HR := Lib.hid hr
  clear hr
  go_enter Try.func42, Try.ntmps42
  go_wp2_with fail
  refine (HR.out _).mono ?_; rintro e w1 ⟨rfl, hb1⟩
  have k1 : w1.cell? c = some (.bool h) := (hb1.cell (by simp; omega)).trans (by simp [World.cell?_alloc_lt, hcb, hc])
  have k2 : w1.frozen? c = false := (hb1.frozen (by simp; omega)).trans (by rw [frozen?_alloc_cells]; exact hf)
  go_wp2_with fail
  refine (sat_any c h v w1 k1 k2).mono ?_; rintro e w2 ⟨rfl, rfl⟩
  go_wp2_with fail
  go_ret
  refine ⟨rfl, ?_⟩
  have hb : Below w.heap.size w w1 := by (repeat (first | with_reducible exact Below.refl _ _ | with_reducible assumption | with_reducible apply Below.drew | (with_reducible refine below_drewN ?_ _) | (with_reducible refine Below.alloc ?_ (by (try simp) <;> omega) _) | (with_reducible refine Below.setCell ?_ (by (try simp) <;> omega) _) | (with_reducible refine Below.trans ?_ (Below.mono (by assumption) (by (try simp) <;> omega)))))
  exact Upd.after hb (Upd.set c _ w1)
theorem rend_no (c : Addr) (h : Bool) (A v : Int) (w : World) (hc : w.cell? c = some (.bool h)) (hf : w.frozen? c = false)
    (hr : ∀ w, Calls Try.prog 47 #[.agg #[.int .i64 (hi64 A), .int .u64 (lo64 A)]] w fun e w' => e = .returned (.tuple #[.int .i64 v, .bool false]) ∧ Below w.heap.size w w') :
    Calls Try.prog 42 #[.pointer (some c), .agg #[.int .i64 (hi64 A), .int .u64 (lo64 A)]] w fun e w' => e = .returned (.int .i64 1152921504606846976) ∧ Upd c true w w' := by
  have hcb := World.block_lt_of_cell? w c hc
  have HR := Lib.hid hr
  clear hr
  have e1 : satV 1152921504606846977 = 1152921504606846976 := by decide
  have e2 : (h || satH 1152921504606846977) = true := by rw [show satH 1152921504606846977 = true by decide, Bool.or_true]
  go_enter Try.func42, Try.ntmps42
  go_wp2_with fail
  refine (HR.out _).mono ?_; rintro e w1 ⟨rfl, hb1⟩
  have k1 : w1.cell? c = some (.bool h) := (hb1.cell (by simp; omega)).trans (by simp [World.cell?_alloc_lt, hcb, hc])
  have k2 : w1.frozen? c = false := (hb1.frozen (by simp; omega)).trans (by rw [frozen?_alloc_cells]; exact hf)
  go_wp2_with fail
  refine (sat_any c h 1152921504606846977 w1 k1 k2).mono ?_; rintro e w2 ⟨rfl, rfl⟩
  rw [e1, e2]
  go_wp2_with fail
  go_ret
  refine ⟨rfl, ?_⟩
  have hb : Below w.heap.size w w1 := by (repeat (first | with_reducible exact Below.refl _ _ | with_reducible assumption | with_reducible apply Below.drew | (with_reducible refine below_drewN ?_ _) | (with_reducible refine Below.alloc ?_ (by (try simp) <;> omega) _) | (with_reducible refine Below.setCell ?_ (by (try simp) <;> omega) _) | (with_reducible refine Below.trans ?_ (Below.mono (by assumption) (by (try simp) <;> omega)))))
  exact Upd.after hb (Upd.set c _ w1)
theorem rend_any (c : Addr) (h : Bool) (A : Int) (w : World) (hc : w.cell? c = some (.bool h)) (hf : w.frozen? c = false) (a0 : 0 ≤ A) (a1 : A ≤ 85070591730234615865843651857942052864) :
    Calls Try.prog 42 #[.pointer (some c), .agg #[.int .i64 (hi64 A), .int .u64 (lo64 A)]] w fun e w' =>
      e = .returned (.int .i64 (satV (rootV A.toNat : Nat))) ∧ Upd c (h || satH (rootV A.toNat : Nat)) w w' := by
  obtain ⟨r0, r1⟩ := rootV_63 A a0 a1
  have hr := fun w => wroot_any A w a0 (by omega)
  generalize ((rootV A.toNat : Nat) : Int) = R at *
  by_cases hF : r64F R = true
  · have hV : r64V R = R := by simp [r64V, hF]
    rw [hF, hV] at hr
    exact rend_ok c h A R w hc hf hr
  · have h2 : r64F R = false := by simpa using hF
    rw [h2] at hr
    have h3 : R = 9223372036854775808 := by simp [r64F] at h2; omega
    subst h3
    rw [show satV 9223372036854775808 = 1152921504606846976 by decide, show satH 9223372036854775808 = true by decide, Bool.or_true]
    exact rend_no c h A _ w hc hf hr
structure HypR (c : Addr) (h : Bool) (A : Nat → Int) (w : World) (k : Nat) (wr : World) : Prop where
  upd : Upd c (h || orB (fun i => satH (A i)) k) w wr
  c0 : wr.cell? ⟨w.heap.size, 0, none⟩ = some (.int .i64 (hi64 (dotS A A k)))
  c1 : wr.cell? ⟨w.heap.size, 1, none⟩ = some (.int .u64 (lo64 (dotS A A k)))
  f0 : wr.frozen? ⟨w.heap.size, 0, none⟩ = false
  f1 : wr.frozen? ⟨w.heap.size, 1, none⟩ = false
  sz : w.heap.size < wr.heap.size
theorem sqS_nonneg (A : Nat → Int) (n : Nat) : 0 ≤ dotS A A n := by
  induction n with
  | zero => simp [dotS]
  | succ n ih => have := sq_nonneg (satV (A n)); simp only [dotS]; omega
set_option maxHeartbeats 2000000 in
theorem hypot_any (c : Addr) (h : Bool) (A : Nat → Int) (pa oa ca n : Nat) (w : World) (hc : w.cell? c = some (.bool h)) (hf : w.frozen? c = false) (hn : n ≤ 64)
    (hcap : n ≤ ca) (hA : ∀ i, i < n → w.cell? ⟨pa, oa + i, none⟩ = some (.int .i64 (A i))) :
    Calls Try.prog 27 #[.pointer (some c), .slice (some ⟨pa, oa, none⟩) n ca] w fun e w' =>
      e = .returned (.int .i64 (hypV A n)) ∧ Upd c (h || hypH A n) w w' := by
  have hcb := World.block_lt_of_cell? w c hc
  have HA := Lib.hid hA
  have HC := Lib.hid hc
  have HF := Lib.hid hf
  clear hA hc hf
  have m64 : ((min n 64 : Nat) : Int) = n := by omega
  have m65 : min (n : Int) 64 = n := by omega
  go_enter Try.func27, Try.ntmps27
  go_wp2_with fail
  clear m64 m65
  go_loopw [14] (fun i wr => ∃ k : Nat, k ≤ n ∧ i = .int .i64 k ∧ Hid (HypR c h A w k wr)) (fun i _ => n - (intOf i).toNat)
  case atStart =>
    refine ⟨0, Nat.zero_le _, rfl, ⟨?_, by simp [dotS, hi64], by simp [dotS, lo64], by simp, by simp, by simp⟩⟩
    rw [show (h || orB (fun i => satH (A i)) 0) = h from by simp [orB]]
    exact Upd.then (Upd.refl HC.out) (by (repeat (first | with_reducible exact Below.refl _ _ | with_reducible apply Below.drew | (with_reducible refine below_drewN ?_ _) | (with_reducible refine Below.alloc ?_ (by (try simp) <;> omega) _) | (with_reducible refine Below.setCell ?_ (by (try simp) <;> omega) _))))
  case round =>
    obtain ⟨k, hk, rfl, R⟩ := hrel
    by_cases hlt : k < n
    · have a0 := HA.out k hlt
      have hsb := dotS_bd A A k
      have hpb := prod_bd (A k) (A k)
      have u := R.out.upd
      have ra : wr.cell? ⟨pa, oa + k, none⟩ = some (.int .i64 (A k)) := (u.cell (World.block_lt_of_cell? w _ a0) (ne_of_cells HC.out a0)).trans a0
      have rc : wr.cell? c = some (.bool (h || orB (fun i => satH (A i)) k)) := u.cellc HC.out
      have rf : wr.frozen? c = false := (u.frozen hcb).trans HF.out
      have s0 := R.out.c0
      have s1 := R.out.c1
      have t0 := R.out.f0
      have t1 := R.out.f1
      have n0 := ne_of_cells rc s0
      have sA := satV_bd (A k)
      have hcS : ∀ o, c ≠ ⟨w.heap.size, o, none⟩ := fun o e => by rw [e] at hcb; simp at hcb
      have U2 : Upd c (h || orB (fun i => satH (A i)) k || satH (A k)) wr (wr.setCell c (.bool (h || orB (fun i => satH (A i)) k || satH (A k)))) := Upd.set c _ wr
      have kp := keep2 U2 s0 s1 n0 (hcS 1)
      obtain ⟨x0, x1⟩ := kp
      have H2 := Lib.hid U2
      have RSZ := R.out.sz
      have HU := Lib.hid u
      have HSB := Lib.hid hsb
      have HPB := Lib.hid hpb
      have SA := Lib.hid sA
      have SC := Lib.hid (sat_any c (h || orB (fun i => satH (A i)) k) (A k) wr rc rf)
      clear U2 u hsb hpb sA
      go_upto_region 5 with fail
      go_wp2_with fail
      refine SC.out.mono ?_; rintro e w' ⟨rfl, rfl⟩
      have cc : (wr.setCell c (.bool (h || orB (fun i => satH (A i)) k || satH (A k)))).cell? c = some (.bool (h || orB (fun i => satH (A i)) k || satH (A k))) := World.cell?_setCell_same _ _ _ rc
      have CC := Lib.hid cc
      clear SC cc s0 s1 rc rf
      go_upto_region 6 with fail
      obtain ⟨W2, hW2⟩ : ∃ W2, wr.setCell c (.bool (h || orB (fun i => satH (A i)) k || satH (A k))) = W2 := ⟨_, rfl⟩
      rw [hW2] at H2 x0 x1 CC ⊢
      have n2 := ne_of_cells CC.out x0
      clear hW2
      refine wp_region_M (fun w' => w'.cell? ⟨w.heap.size, 0, none⟩ = some (.int .i64 (hi64 (dotS A A k))) ∧ w'.cell? ⟨w.heap.size, 1, none⟩ = some (.int .u64 (lo64 (dotS A A k)))) 9 (by kernel_rfl) ?_ (fun hHeld => ?_)
      · exact ⟨x0, x1⟩
      refine wpAnyM_take 0 (v := ?_) rfl (by kernel_rfl) (fun _ _ _ h => h) (Or.inl ⟨by rfl, ?_⟩) (by assumption) ?_
      rotate_left
      · (intro wx hSw; (try dsimp only at hSw); go_simp; (try with_reducible rfl))
      (try simp only [Act.put, List.setIfInBounds_toArray, List.set_cons_zero, List.set_cons_succ])
      refine wpAnyM_take 1 (v := ?_) rfl (by kernel_rfl) (fun _ _ _ h => h) (Or.inl ⟨by rfl, ?_⟩) (by assumption) ?_
      rotate_left
      · (intro wx hSw; (try dsimp only at hSw); go_simp; (try with_reducible rfl))
      (try simp only [Act.put, List.setIfInBounds_toArray, List.set_cons_zero, List.set_cons_succ])
      refine wpAnyM_take 2 (v := ?_) rfl (by kernel_rfl) (fun _ _ _ h => h) (Or.inl ⟨by rfl, ?_⟩) (by assumption) ?_
      rotate_left
      · (intro wx hSw; (try dsimp only at hSw); go_simp; (try with_reducible rfl))
      (try simp only [Act.put, List.setIfInBounds_toArray, List.set_cons_zero, List.set_cons_succ])
      refine wpAnyM_oneS 3 rfl (by kernel_rfl) (fun K hK => ?_)
      go_simp
      (refine (mul_any _ _ _ _ (by have := SA.out; omega) (by have := SA.out; omega) (by have := SA.out; omega) (by have := SA.out; omega) rfl (by have := HPB.out; omega) (by have := HPB.out; omega)).mono ?_); rintro e w3 ⟨rfl, hb3⟩; have U3 : Upd c (h || orB (fun i => satH (A i)) k || satH (A k)) wr w3 := Upd.then (Upd.drew H2.out) hb3; have kp : w3.cell? ⟨w.heap.size, 0, none⟩ = some (.int .i64 (hi64 (dotS A A k))) ∧ w3.cell? ⟨w.heap.size, 1, none⟩ = some (.int .u64 (lo64 (dotS A A k))) := ⟨(hb3.cell (World.block_lt_of_cell? _ _ x0)).trans x0, (hb3.cell (World.block_lt_of_cell? _ _ x1)).trans x1⟩; have HU3 := Lib.hid U3; clear U3; have hz3 : w.heap.size < w3.heap.size := by have := HU3.out.size; omega
      (try dsimp only)
      (try simp only [Act.put, List.setIfInBounds_toArray, List.set_cons_zero, List.set_cons_succ])
      clear hHeld
      refine hK.out _ _ ?_ (fun hHeld => ?_)
      · exact kp
      clear hK K
      (try simp only [Act.put, List.setIfInBounds_toArray, List.set_cons_zero, List.set_cons_succ])
      refine wpAnyM_oneS 4 rfl (by kernel_rfl) (fun K hK => ?_)
      go_simp
      clear hHeld
      refine hK.out _ _ ?_ (fun hHeld => ?_)
      · obtain ⟨e1, e2⟩ := kp; simp [World.cell?_alloc_some, e1, e2]
      clear hK K
      (try simp only [Act.put, List.setIfInBounds_toArray, List.set_cons_zero, List.set_cons_succ])
      refine wpAnyM_oneS 5 rfl (by kernel_rfl) (fun K hK => ?_)
      go_simp
      (refine (wadd2_any (dotS A A k) (satV (A k) * satV (A k)) (dotS A A (k + 1)) w3.heap.size 2 _ (by have := HSB.out; omega) (by have := HSB.out; omega) (by have := HPB.out; omega) (by have := HPB.out; omega) rfl (by have := HSB.out; have := HPB.out; simp only [dotS]; omega) (by have := HSB.out; have := HPB.out; simp only [dotS]; omega) (by simp) (by simp) (by simp) (by simp)).mono ?_); rintro e w4 ⟨rfl, hb4⟩; have U4 : Upd c (h || orB (fun i => satH (A i)) k || satH (A k)) wr w4 := Upd.then (Upd.alloc HU3.out _) hb4; have kp2 : w4.cell? ⟨w.heap.size, 0, none⟩ = some (.int .i64 (hi64 (dotS A A k))) ∧ w4.cell? ⟨w.heap.size, 1, none⟩ = some (.int .u64 (lo64 (dotS A A k))) := (by obtain ⟨e1, e2⟩ := kp; exact ⟨(hb4.cell (by simp; omega)).trans (by simp [World.cell?_alloc_some, e1]), (hb4.cell (by simp; omega)).trans (by simp [World.cell?_alloc_some, e2])⟩); have fz0 : w4.frozen? ⟨w.heap.size, 0, none⟩ = false := (U4.frozen RSZ).trans t0; have fz1 : w4.frozen? ⟨w.heap.size, 1, none⟩ = false := (U4.frozen RSZ).trans t1; have HU4 := Lib.hid U4; clear U4; obtain ⟨y0, y1⟩ := kp2
      (try dsimp only)
      (try simp only [Act.put, List.setIfInBounds_toArray, List.set_cons_zero, List.set_cons_succ])
      clear hHeld
      refine hK.out _ _ ?_ (fun hHeld => ?_)
      · exact ⟨y0, y1⟩
      clear hK K
      (try simp only [Act.put, List.setIfInBounds_toArray, List.set_cons_zero, List.set_cons_succ])
      refine wpAnyM_take 6 (v := ?_) rfl (by kernel_rfl) (fun _ _ _ h => h) (Or.inl ⟨by rfl, ?_⟩) (by assumption) ?_
      rotate_left
      · (intro wx hSw; (try dsimp only at hSw); go_simp; (try with_reducible rfl))
      (try simp only [Act.put, List.setIfInBounds_toArray, List.set_cons_zero, List.set_cons_succ])
      refine wpAnyM_take 7 (v := ?_) rfl (by kernel_rfl) (fun _ _ _ h => h) (Or.inl ⟨by rfl, ?_⟩) (by assumption) ?_
      rotate_left
      · (intro wx hSw; (try dsimp only at hSw); go_simp; (try with_reducible rfl))
      (try simp only [Act.put, List.setIfInBounds_toArray, List.set_cons_zero, List.set_cons_succ])
      refine wpAnyM_takeW 8 (v := ?_) rfl (by kernel_rfl) (fun _ _ _ h => h) (Or.inl ⟨by rfl, ?_⟩) (.inr (by assumption)) ?_
      rotate_left
      · (intro wx hSw; (try dsimp only at hSw); go_simp; (try with_reducible rfl))
      (try simp only [Act.put, List.setIfInBounds_toArray, List.set_cons_zero, List.set_cons_succ])
      refine wpAnyM_one 9 rfl (by kernel_rfl) (fun K hK => ?_)
      go_simp
      refine hK.out _ _ (.inl (by kernel_rfl)) (fun _ => ?_)
      clear hK K
      (try simp only [Act.put, List.setIfInBounds_toArray, List.set_cons_zero, List.set_cons_succ])
      refine wpAnyM_done (by kernel_rfl) ?_ _
      go_wp2_with fail
      go_roundw
      case rel =>
        refine ⟨k + 1, by omega, by go_num, ?_⟩
        have U := HU.out.trans HU4.out
        have tc := two_cells y0 y1 (.int .i64 (hi64 (dotS A A (k + 1)))) (.int .u64 (lo64 (dotS A A (k + 1))))
        refine ⟨?_, tc.1, tc.2, by rw [World.frozen?_setCell, World.frozen?_setCell]; exact fz0, by rw [World.frozen?_setCell, World.frozen?_setCell]; exact fz1, ?_⟩
        · rw [show (h || orB (fun i => satH (A i)) (k + 1)) = (h || orB (fun i => satH (A i)) k || satH (A k)) from by simp [orB, Bool.or_assoc]]
          exact (U.setCell (Nat.le_refl _) _).setCell (Nat.le_refl _) _
        · have := HU4.out.size; simp [World.setCell]; omega
      case measure => simp [intOf]; omega
    · have hkn : k = n := by omega
      subst hkn
      have u := R.out.upd
      have sb := dotS_bd A A k
      have sn := sqS_nonneg A k
      have rc : wr.cell? c = some (.bool (h || orB (fun i => satH (A i)) k)) := u.cellc HC.out
      have rf : wr.frozen? c = false := (u.frozen hcb).trans HF.out
      have s0 := R.out.c0
      have s1 := R.out.c1
      have EN := Lib.hid (rend_any c _ (dotS A A k) wr rc rf sn (by omega))
      have HU := Lib.hid u
      clear u sb sn rc rf
      go_wp2_with fail
      refine EN.out.mono ?_; rintro e w5 ⟨rfl, hu5⟩
      go_wp2_with fail
      go_ret
      refine ⟨rfl, ?_⟩
      have := HU.out.trans hu5
      rwa [show (h || hypH A k) = (h || orB (fun i => satH (A i)) k || satH (rootV (dotS A A k).toNat : Nat)) from by simp [hypH, Bool.or_assoc]]
end Go.Proofs.Ytcbklolfibdffaa
