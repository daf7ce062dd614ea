/- Contract of fx.Add. -/
import Derived.Test.YtcbklolfibdffaaArr
namespace Go.Proofs.Ytcbklolfibdffaa
open Go.RowKit
set_option maxRecDepth 100000
theorem of_any (a : Int) (w : World) (h1 : -9223372036854775808 ≤ a) (h2 : a < 9223372036854775808) :
    Calls Try.prog 30 #[.int .i64 a] w fun e w' => e = .returned (Wv a) ∧ Below w.heap.size w w' := by
  go_enter Try.func30, Try.ntmps30
  go_wp2_with fail
  simp [bodyPost, results, Try.results30, go_sem]
  refine ⟨?_, ?_⟩
  · simp only [Wv, Value.agg.injEq, IntKind.wrap_u64]
    have : a / 9223372036854775808 = hi64 a := by unfold hi64; omega
    rw [this]; rfl
  · (repeat (first | with_reducible exact Below.refl _ _ | with_reducible apply Below.drew | (with_reducible refine below_drewN ?_ _) | (with_reducible refine Below.alloc ?_ (by (try simp) <;> omega) _) | (with_reducible refine Below.setCell ?_ (by (try simp) <;> omega) _)))
/-- wide.Of. -/
theorem wof_any (a : Int) (w : World) (h1 : -9223372036854775808 ≤ a) (h2 : a < 9223372036854775808) :
    Calls Try.prog 30 #[.int .i64 a] w fun e w' => e = .returned (.agg #[.int .i64 (hi64 a), .int .u64 (lo64 a)]) ∧ Below w.heap.size w w' := of_any a w h1 h2
structure AddR (c : Addr) (h : Bool) (A : Nat → Int) (w : World) (k : Nat) (wr : World) : Prop where
  upd : Upd c (h || sumB A k) w wr
  c0 : wr.cell? ⟨w.heap.size, 0, none⟩ = some (.int .i64 (hi64 (sumS A k)))
  c1 : wr.cell? ⟨w.heap.size, 1, none⟩ = some (.int .u64 (lo64 (sumS A k)))
  f0 : wr.frozen? ⟨w.heap.size, 0, none⟩ = false
  f1 : wr.frozen? ⟨w.heap.size, 1, none⟩ = false
  sz : w.heap.size < wr.heap.size
set_option maxHeartbeats 1000000 in
theorem fadd_any (c : Addr) (h : Bool) (A : Nat → Int) (pa oa ca n : Nat) (w : World) (hc : w.cell? c = some (.bool h)) (hf : w.frozen? c = false) (hn : n ≤ 100)
    (hA : ∀ i, i < n → w.cell? ⟨pa, oa + i, none⟩ = some (.int .i64 (A i))) :
    Calls Try.prog 21 #[.pointer (some c), .slice (some ⟨pa, oa, none⟩) n ca] w fun e w' =>
      e = .returned (.int .i64 (satV (sumS A n))) ∧ Upd c (h || sumB A n || satH (sumS A n)) w w' := by
  have hcb := World.block_lt_of_cell? w c hc
  have HA := Lib.hid hA
  have HC := Lib.hid hc
  have HF := Lib.hid hf
  clear hA hc hf
  go_enter Try.func21, Try.ntmps21
  go_wp2_with fail
  go_loopw [12] (fun i wr => ∃ k : Nat, k ≤ n ∧ i = .int .i64 k ∧ Hid (AddR c h A w k wr)) (fun i _ => n - (intOf i).toNat)
  case atStart =>
    refine ⟨0, Nat.zero_le _, rfl, ⟨?_, by simp [sumS, hi64], by simp [sumS, lo64], by simp, by simp, by simp⟩⟩
    rw [show (h || sumB A 0) = h from by simp [sumB]]
    exact Upd.then (Upd.refl HC.out) (by (repeat (first | with_reducible exact Below.refl _ _ | with_reducible apply Below.drew | (with_reducible refine below_drewN ?_ _) | (with_reducible refine Below.alloc ?_ (by (try simp) <;> omega) _) | (with_reducible refine Below.setCell ?_ (by (try simp) <;> omega) _))))
  case round =>
    obtain ⟨k, hk, rfl, R⟩ := hrel
    by_cases hlt : k < n
    · have a0 := HA.out k hlt
      have hsb := sumS_bd A k
      have u := R.out.upd
      have ra : wr.cell? ⟨pa, oa + k, none⟩ = some (.int .i64 (A k)) := (u.cell (World.block_lt_of_cell? w _ a0) (ne_of_cells HC.out a0)).trans a0
      have rc : wr.cell? c = some (.bool (h || sumB A k)) := u.cellc HC.out
      have rf : wr.frozen? c = false := (u.frozen hcb).trans HF.out
      have s0 := R.out.c0
      have s1 := R.out.c1
      have t0 := R.out.f0
      have t1 := R.out.f1
      have n0 := ne_of_cells rc s0
      have sA := satV_bd (A k)
      have RSZ := R.out.sz
      have U2 : Upd c (h || sumB A k || satH (A k)) wr (wr.drew.setCell c (.bool (h || sumB A k || satH (A k)))) := Upd.after (Below.drew (Below.refl _ _)) (Upd.set c _ wr.drew)
      have H2 := Lib.hid U2
      have HU := Lib.hid u
      have HSB := Lib.hid hsb
      have SA := Lib.hid sA
      clear U2 u hsb sA
      have hcS : ∀ o, c ≠ ⟨w.heap.size, o, none⟩ := fun o e => by rw [e] at hcb; simp at hcb
      go_wp2_with fail
      refine wp_region_M (fun w' => w'.cell? ⟨w.heap.size, 0, none⟩ = some (.int .i64 (hi64 (sumS A k))) ∧ w'.cell? ⟨w.heap.size, 1, none⟩ = some (.int .u64 (lo64 (sumS A k)))) 10 (by kernel_rfl) ?_ (fun hHeld => ?_)
      · exact ⟨s0, s1⟩
      refine wpAnyM_take 0 (v := ?_) rfl (by kernel_rfl) (fun _ _ _ h => h) (Or.inl ⟨by rfl, ?_⟩) (by assumption) ?_
      rotate_left
      · (intro wx hSw; (try dsimp only at hSw); go_simp; (try with_reducible rfl))
      (try simp only [Act.put, List.setIfInBounds_toArray, List.set_cons_zero, List.set_cons_succ])
      refine wpAnyM_take 1 (v := ?_) rfl (by kernel_rfl) (fun _ _ _ h => h) (Or.inl ⟨by rfl, ?_⟩) (by assumption) ?_
      rotate_left
      · (intro wx hSw; (try dsimp only at hSw); go_simp; (try with_reducible rfl))
      (try simp only [Act.put, List.setIfInBounds_toArray, List.set_cons_zero, List.set_cons_succ])
      refine wpAnyM_take 2 (v := ?_) rfl (by kernel_rfl) (fun _ _ _ h => h) (Or.inl ⟨by rfl, ?_⟩) (by assumption) ?_
      rotate_left
      · (intro wx hSw; (try dsimp only at hSw); go_simp; (try with_reducible rfl))
      (try simp only [Act.put, List.setIfInBounds_toArray, List.set_cons_zero, List.set_cons_succ])
      refine wpAnyM_oneS 3 rfl (by kernel_rfl) (fun K hK => ?_)
      go_simp
      (refine (sat_any c (h || sumB A k) (A k) wr.drew rc rf).mono ?_); rintro e w' ⟨rfl, rfl⟩
      (try dsimp only)
      (try simp only [Act.put, List.setIfInBounds_toArray, List.set_cons_zero, List.set_cons_succ])
      clear hHeld
      refine hK.out _ _ ?_ (fun hHeld => ?_)
      · simp [go_sem, *]
      clear hK K
      (try simp only [Act.put, List.setIfInBounds_toArray, List.set_cons_zero, List.set_cons_succ])
      refine wpAnyM_oneS 4 rfl (by kernel_rfl) (fun K hK => ?_)
      go_simp
      (refine (wof_any _ _ (by have := SA.out; omega) (by have := SA.out; omega)).mono ?_); rintro e w3 ⟨rfl, hb3⟩; have U3 : Upd c (h || sumB A k || satH (A k)) wr w3 := Upd.then H2.out hb3; have kp := keep2 U3 s0 s1 n0 (hcS 1); have HU3 := Lib.hid U3; clear U3; have hz3 : w.heap.size < w3.heap.size := by have := HU3.out.size; omega
      (try dsimp only)
      (try simp only [Act.put, List.setIfInBounds_toArray, List.set_cons_zero, List.set_cons_succ])
      clear hHeld
      refine hK.out _ _ ?_ (fun hHeld => ?_)
      · exact kp
      clear hK K
      (try simp only [Act.put, List.setIfInBounds_toArray, List.set_cons_zero, List.set_cons_succ])
      refine wpAnyM_oneS 5 rfl (by kernel_rfl) (fun K hK => ?_)
      go_simp
      clear hHeld
      refine hK.out _ _ ?_ (fun hHeld => ?_)
      · obtain ⟨e1, e2⟩ := kp; simp [World.cell?_alloc_some, e1, e2]
      clear hK K
      (try simp only [Act.put, List.setIfInBounds_toArray, List.set_cons_zero, List.set_cons_succ])
      refine wpAnyM_oneS 6 rfl (by kernel_rfl) (fun K hK => ?_)
      go_simp
      (refine (wadd2_any (sumS A k) (satV (A k)) (sumS A (k + 1)) w3.heap.size 2 _ (by have := HSB.out; omega) (by have := HSB.out; omega) (by have := SA.out; omega) (by have := SA.out; omega) rfl (by have := HSB.out; have := SA.out; simp only [sumS]; omega) (by have := HSB.out; have := SA.out; simp only [sumS]; omega) (by simp) (by simp) (by simp) (by simp)).mono ?_); rintro e w4 ⟨rfl, hb4⟩; have U4 : Upd c (h || sumB A k || satH (A k)) wr w4 := Upd.then (Upd.alloc HU3.out _) hb4; have kp2 := keep2 U4 s0 s1 n0 (hcS 1); have fz0 : w4.frozen? ⟨w.heap.size, 0, none⟩ = false := (U4.frozen RSZ).trans t0; have fz1 : w4.frozen? ⟨w.heap.size, 1, none⟩ = false := (U4.frozen RSZ).trans t1; have HU4 := Lib.hid U4; clear U4; obtain ⟨y0, y1⟩ := kp2
      (try dsimp only)
      (try simp only [Act.put, List.setIfInBounds_toArray, List.set_cons_zero, List.set_cons_succ])
      clear hHeld
      refine hK.out _ _ ?_ (fun hHeld => ?_)
      · exact ⟨y0, y1⟩
      clear hK K
      (try simp only [Act.put, List.setIfInBounds_toArray, List.set_cons_zero, List.set_cons_succ])
      refine wpAnyM_take 7 (v := ?_) rfl (by kernel_rfl) (fun _ _ _ h => h) (Or.inl ⟨by rfl, ?_⟩) (by assumption) ?_
      rotate_left
      · (intro wx hSw; (try dsimp only at hSw); go_simp; (try with_reducible rfl))
      (try simp only [Act.put, List.setIfInBounds_toArray, List.set_cons_zero, List.set_cons_succ])
      refine wpAnyM_take 8 (v := ?_) rfl (by kernel_rfl) (fun _ _ _ h => h) (Or.inl ⟨by rfl, ?_⟩) (by assumption) ?_
      rotate_left
      · (intro wx hSw; (try dsimp only at hSw); go_simp; (try with_reducible rfl))
      (try simp only [Act.put, List.setIfInBounds_toArray, List.set_cons_zero, List.set_cons_succ])
      refine wpAnyM_takeW 9 (v := ?_) rfl (by kernel_rfl) (fun _ _ _ h => h) (Or.inl ⟨by rfl, ?_⟩) (.inr (by assumption)) ?_
      rotate_left
      · (intro wx hSw; (try dsimp only at hSw); go_simp; (try with_reducible rfl))
      (try simp only [Act.put, List.setIfInBounds_toArray, List.set_cons_zero, List.set_cons_succ])
      refine wpAnyM_one 10 rfl (by kernel_rfl) (fun K hK => ?_)
      go_simp
      refine hK.out _ _ (.inl (by kernel_rfl)) (fun _ => ?_)
      clear hK K
      (try simp only [Act.put, List.setIfInBounds_toArray, List.set_cons_zero, List.set_cons_succ])
      refine wpAnyM_done (by kernel_rfl) ?_ _
      go_wp2_with fail
      go_roundw
      case rel =>
        refine ⟨k + 1, by omega, by go_num, ?_⟩
        have U := HU.out.trans HU4.out
        have tc := two_cells y0 y1 (.int .i64 (hi64 (sumS A (k + 1)))) (.int .u64 (lo64 (sumS A (k + 1))))
        refine ⟨?_, tc.1, tc.2, by rw [World.frozen?_setCell, World.frozen?_setCell]; exact fz0, by rw [World.frozen?_setCell, World.frozen?_setCell]; exact fz1, ?_⟩
        · rw [show (h || sumB A (k + 1)) = (h || sumB A k || satH (A k)) from by simp [sumB, Bool.or_assoc]]
          exact (U.setCell (Nat.le_refl _) _).setCell (Nat.le_refl _) _
        · have := HU4.out.size; simp [World.setCell]; omega
      case measure => simp [intOf]; omega
    · have hkn : k = n := by omega
      subst hkn
      have u := R.out.upd
      have sb := sumS_bd A k
      have rc : wr.cell? c = some (.bool (h || sumB A k)) := u.cellc HC.out
      have rf : wr.frozen? c = false := (u.frozen hcb).trans HF.out
      have s0 := R.out.c0
      have s1 := R.out.c1
      have RSZ := R.out.sz
      have HS := Lib.hid sb
      have HU := Lib.hid u
      clear u sb
      go_wp2_with fail
      refine (round_any (sumS A k) 0 _ (by decide) (by decide) (by have := HS.out; omega) (by have := HS.out; omega)).mono ?_; rintro e w5 ⟨rfl, hb5⟩
      have rc5 : w5.cell? c = some (.bool (h || sumB A k)) := (hb5.cell (World.block_lt_of_cell? _ _ rc)).trans rc
      have rf5 : w5.frozen? c = false := (hb5.frozen (World.block_lt_of_cell? _ _ rc)).trans rf
      have s5 : w5.cell? ⟨w.heap.size, 0, none⟩ = some (.int .i64 (hi64 (sumS A k))) := (hb5.cell RSZ).trans s0
      have H5 := Lib.hid hb5
      clear hb5 rc rf s0 s1
      go_wp2_with fail
      refine (end_any c _ (rsh (sumS A k) 0) _ _ rc5 rf5 (fun hn => by rw [hi_neg]; exact rsh_neg _ _ hn)).mono ?_; rintro e w6 ⟨rfl, rfl⟩
      go_wp2_with fail
      go_ret
      rw [rsh_zero]
      exact ⟨rfl, HU.out.trans (Upd.after H5.out (Upd.set c _ _))⟩
end Go.Proofs.Ytcbklolfibdffaa
