/- The walk of the law BlockOthers. -/
import Derived.Test.YtipkdkeacdmnaaaQ11
namespace Go.Proofs.Ytipkdkeacdmnaaa
open Go.RowKit
set_option maxRecDepth 100000
set_option maxHeartbeats 4000000 in
theorem oth_noop (P : Nat → Int) (k i j v : Int) (w : World) (h : k < 0 ∨ 23 < k ∨ i < 0 ∨ 23 < i ∨ j < 0 ∨ 23 < j ∨ i = k ∨ j = k ∨ v < 1 ∨ 17592186044416 < v) :
    Calls Try.prog 5 #[.agg (arrv 300 P), .int .i64 k, .int .i64 i, .int .i64 j, .int .i64 v] w fun e w' => e = .returned (.bool true) ∧ Below w.heap.size w w' := by
  have S0 := Lib.hid (show Below w.heap.size w (w.alloc (.cells (arrv 300 P) 25)) by (repeat (first | with_reducible exact Below.refl _ _ | with_reducible apply Below.drew | (with_reducible refine below_drewN ?_ _) | (with_reducible refine Below.alloc ?_ (by (try simp) <;> omega) _) | (with_reducible refine Below.setCell ?_ (by (try simp) <;> omega) _))))
  go_enter Try.func5, Try.ntmps5
  go_upto_region 1 with fail
  generalize w.alloc (.cells (arrv 300 P) 25) = W0 at *
  go_upto_region 3 with (go_at_call 14; (refine (awake12_any _).mono ?_); rintro e w1 ⟨rfl, hb1⟩; have S1 := Lib.hid (Below.after S0.out hb1); clear hb1)
  go_wp2_with fail
  all_goals (first | (exfalso; omega) | (go_ret; exact ⟨rfl, S1.out⟩))
/-- Two numbers of At beside one another. -/
theorem oth_num {a b q : Int} (h1 : ab b ≤ 212000000000000) (h2 : ab (a - b) ≤ q) (hq : q ≤ 4294967296) : IntKind.i64.wrap (a - b) = a - b ∧ decide (a - b ≤ q) = true ∧ decide (-q ≤ a - b) = true := by
  have x := ab_le h1
  have y := ab_le h2
  exact ⟨IntWalk.i64_in _ (by omega), by simp; omega, by simp; omega⟩
set_option maxHeartbeats 20000000 in
theorem oth_yes (P0 : Nat → Int) (k i j : Nat) (v : Int) (w : World) (hk : k < 24) (hi : i < 24) (hj : j < 24) (xi : i ≠ k) (xj : j ≠ k) (hv : 1 ≤ v ∧ v ≤ 17592186044416) :
    Calls Try.prog 5 #[.agg (arrv 300 P0), .int .i64 (k : Int), .int .i64 (i : Int), .int .i64 (j : Int), .int .i64 v] w fun e w' => e = .returned (.bool true) ∧ Below w.heap.size w w' := by
  have S0 := Lib.hid (show Below w.heap.size w (w.alloc (.cells (arrv 300 P0) 25)) ∧ Blk (w.alloc (.cells (arrv 300 P0) 25)) w.heap.size 25 300 P0 from ⟨by (repeat (first | with_reducible exact Below.refl _ _ | with_reducible apply Below.drew | (with_reducible refine below_drewN ?_ _) | (with_reducible refine Below.alloc ?_ (by (try simp) <;> omega) _) | (with_reducible refine Below.setCell ?_ (by (try simp) <;> omega) _))), Blk.new w _ _ _⟩)
  have t1 : decide ((k : Int) < 0) = false := by simp
  have t2 : decide (23 < (k : Int)) = false := by simp; omega
  have t3 : decide ((i : Int) < 0) = false := by simp
  have t4 : decide (23 < (i : Int)) = false := by simp; omega
  have t5 : decide ((j : Int) < 0) = false := by simp
  have t6 : decide (23 < (j : Int)) = false := by simp; omega
  have t7 := Lib.hid (show ((i : Int) == (k : Int)) = false by simp; omega)
  have t8 := Lib.hid (show ((j : Int) == (k : Int)) = false by simp; omega)
  have t9 : decide (v < 1) = false := by simp; omega
  have tA : decide (17592186044416 < v) = false := by simp; omega
  -- the laws' numbers
  have atp := bo_at (P0 := P0) hk
  have bA := bo_law (P0 := P0) hk hi hj xi xj (show 1 ≤ v ∧ v ≤ 22000000000000 by omega)
  have oB := bo_own (clD P0 24) hk (v := atV (clD P0 24) k k) ⟨atp.1, by omega⟩
  have bB := bo_law (P0 := P0) hk hi hj xi xj (v := atV (clD P0 24) k k) ⟨atp.1, atp.2.1⟩
  obtain ⟨P, hP⟩ : ∃ x, clD P0 24 = x := ⟨_, rfl⟩
  have PC := Lib.hid (plain12_any P0)
  rw [hP] at PC atp bA oB bB
  clear hP
  have RC0 := fun (c : Addr) (x : World) (s : Option Addr) (k1 : x.cell? c = some (.bool false)) (k2 : x.frozen? c = false) (k3 : Slc x s 1 (fun _ => v)) => reset_any c false P (k : Int) s 1 1 (fun _ => v) x k1 k2 k3 (by omega) (by omega)
  have vv := var_id (v := v) (by omega)
  rw [bo_rtF hk, bo_rtQ hk, bo_rtB hk, vv.1, vv.2, bA.1] at RC0
  have FC0 := fun (c : Addr) (x : World) (s : Option Addr) (k1 : x.cell? c = some (.bool false)) (k2 : x.frozen? c = false) (k3 : Slc x s 1 (fun _ => (k : Int))) => forget_any c false P s 1 1 (fun _ => (k : Int)) x k1 k2 k3 (by omega)
  have vz := var_id (v := atV P k k) ⟨atp.1, by omega⟩
  rw [bo_fgF hk rfl, bo_fgQ hk rfl, bo_fgB hk rfl, vz.1, vz.2, atp.2.2, bB.1] at FC0
  obtain ⟨A, hA⟩ : ∃ x, stepF P (boF k) (boQ k v) = x := ⟨_, rfl⟩
  obtain ⟨B, hB⟩ : ∃ x, stepF P (boF k) (boQ k (atV P k k)) = x := ⟨_, rfl⟩
  rw [hA] at RC0 bA
  rw [hB] at FC0 oB bB
  clear hA hB vv vz
  have AC := fun (c : Addr) (f : Nat → Int) (m n : Nat) (hm : m < 24) (hn : n < 24) (x : World) (k1 : x.cell? c = some (.bool false)) (k2 : x.frozen? c = false) => at_any c false f m n x k1 k2 hm hn
  have C1 := Lib.hid (fun (c : Addr) => AC c A i j hi hj)
  have C2 := Lib.hid (fun (c : Addr) => AC c P i j hi hj)
  have C3 := Lib.hid (fun (c : Addr) => AC c B i j hi hj)
  have C4 := Lib.hid (fun (c : Addr) => AC c B k k hk hk)
  have C5 := Lib.hid (fun (c : Addr) => AC c P k k hk hk)
  clear AC
  rw [bA.2.1] at C1
  rw [bA.2.2.1] at C2
  rw [bB.2.1] at C3
  rw [oB.2] at C4
  rw [atp.2.2] at C5
  have RC := Lib.hid RC0
  have FC := Lib.hid FC0
  have N1 := oth_num bA.2.2.2.1 bA.2.2.2.2 (by decide)
  have N2 := oth_num bB.2.2.2.1 bB.2.2.2.2 (by decide)
  have eo := oB.1
  rw [eo] at C4
  clear RC0 FC0 oB
  obtain ⟨za, hza⟩ : ∃ x, atV A i j = x := ⟨_, rfl⟩
  obtain ⟨zp, hzp⟩ : ∃ x, atV P i j = x := ⟨_, rfl⟩
  obtain ⟨zb, hzb⟩ : ∃ x, atV B i j = x := ⟨_, rfl⟩
  obtain ⟨zk, hzk⟩ : ∃ x, atV P k k = x := ⟨_, rfl⟩
  rw [hza, hzp] at N1
  rw [hzb, hzp] at N2
  rw [hza] at C1
  rw [hzp] at C2
  rw [hzb] at C3
  rw [hzk] at C4 C5
  obtain ⟨dx, hdx⟩ : ∃ x, za - zp = x := ⟨_, rfl⟩
  obtain ⟨dy, hdy⟩ : ∃ x, zb - zp = x := ⟨_, rfl⟩
  have N1 := Lib.hid (show IntKind.i64.wrap (za - zp) = dx ∧ decide (dx ≤ 4294967296) = true ∧ decide (-4294967296 ≤ dx) = true by rw [← hdx]; exact N1)
  have N2 := Lib.hid (show IntKind.i64.wrap (zb - zp) = dy ∧ decide (dy ≤ 4294967296) = true ∧ decide (-4294967296 ≤ dy) = true by rw [← hdy]; exact N2)
  clear hdx hdy
  clear hza hzp hzb hzk bA bB eo atp hv
  go_enter Try.func5, Try.ntmps5
  go_upto_region 1 with fail
  generalize w.alloc (.cells (arrv 300 P0) 25) = W0 at *
  go_upto_region 3 with (go_at_call 14; (refine (awake12_any _).mono ?_); rintro e w1 ⟨rfl, hb1⟩; have S1 := Lib.hid (And.intro (Below.after S0.out.1 hb1) (S0.out.2.below hb1)); clear hb1)
  clear S0
  refine wp_region_lit ?_
  refine wpList_val (v := ?_) rfl ?_ ?_
  rotate_left
  · (go_simp; (try (first | with_reducible rfl | (constructor <;> with_reducible rfl))))
  (try simp only [Act.put, nA, nB, nC])
  refine wpList_val (v := ?_) rfl ?_ ?_
  rotate_left
  · (go_simp; (try (first | with_reducible rfl | (constructor <;> with_reducible rfl))))
  (try simp only [Act.put, nA, nB, nC])
  refine wpList_val (v := ?_) rfl ?_ ?_
  rotate_left
  · (go_simp; (try (first | with_reducible rfl | (constructor <;> with_reducible rfl))))
  (try simp only [Act.put, nA, nB, nC])
  first | (refine wpList_val (v := ?_) (by rfl) ?_ ?_; rotate_left; focus ((go_simp; (try (first | with_reducible rfl | (constructor <;> with_reducible rfl)))))) | refine wpList_skip (by rfl) ?_
  (try simp only [Act.put, nA, nB, nC])
  first | (refine wpList_val (v := ?_) (by rfl) ?_ ?_; rotate_left; focus ((go_simp; (try (first | with_reducible rfl | (constructor <;> with_reducible rfl)))))) | refine wpList_skip (by rfl) ?_
  (try simp only [Act.put, nA, nB, nC])
  refine wpList_val (v := ?_) rfl ?_ ?_
  rotate_left
  · (go_simp; (try (first | with_reducible rfl | (constructor <;> with_reducible rfl))))
  (try simp only [Act.put, nA, nB, nC])
  refine wpList_val (v := ?_) rfl ?_ ?_
  rotate_left
  · (go_simp; (try (first | with_reducible rfl | (constructor <;> with_reducible rfl))))
  (try simp only [Act.put, nA, nB, nC])
  first | (refine wpList_val (v := ?_) (by rfl) ?_ ?_; rotate_left; focus ((go_simp; (try (first | with_reducible rfl | (constructor <;> with_reducible rfl)))))) | refine wpList_skip (by rfl) ?_
  (try simp only [Act.put, nA, nB, nC])
  first | (refine wpList_val (v := ?_) (by rfl) ?_ ?_; rotate_left; focus ((go_simp; (try (first | with_reducible rfl | (constructor <;> with_reducible rfl)))))) | refine wpList_skip (by rfl) ?_
  (try simp only [Act.put, nA, nB, nC])
  refine wpList_val (v := ?_) rfl ?_ ?_
  rotate_left
  · (go_simp; (try (first | with_reducible rfl | (constructor <;> with_reducible rfl))))
  (try simp only [Act.put, nA, nB, nC])
  refine wpList_val (v := ?_) rfl ?_ ?_
  rotate_left
  · (go_simp; (try (first | with_reducible rfl | (constructor <;> with_reducible rfl))))
  (try simp only [Act.put, nA, nB, nC])
  first | (refine wpList_val (v := ?_) (by rfl) ?_ ?_; rotate_left; focus ((go_simp; (try (first | with_reducible rfl | (constructor <;> with_reducible rfl)))))) | refine wpList_skip (by rfl) ?_
  (try simp only [Act.put, nA, nB, nC])
  first | (refine wpList_val (v := ?_) (by rfl) ?_ ?_; rotate_left; focus ((go_simp; (try (first | with_reducible rfl | (constructor <;> with_reducible rfl)))))) | refine wpList_skip (by rfl) ?_
  (try simp only [Act.put, nA, nB, nC])
  refine wpList_val (v := ?_) rfl ?_ ?_
  rotate_left
  · (go_simp; (try (first | with_reducible rfl | (constructor <;> with_reducible rfl))))
  (try simp only [Act.put, nA, nB, nC])
  refine wpList_val (v := ?_) rfl ?_ ?_
  rotate_left
  · (go_simp; (try (first | with_reducible rfl | (constructor <;> with_reducible rfl))))
  (try simp only [Act.put, nA, nB, nC])
  first | (refine wpList_val (v := ?_) (by rfl) ?_ ?_; rotate_left; focus ((go_simp; (try (first | with_reducible rfl | (constructor <;> with_reducible rfl)))))) | refine wpList_skip (by rfl) ?_
  (try simp only [Act.put, nA, nB, nC])
  first | (refine wpList_val (v := ?_) (by rfl) ?_ ?_; rotate_left; focus ((go_simp; (try (first | with_reducible rfl | (constructor <;> with_reducible rfl)))))) | refine wpList_skip (by rfl) ?_
  (try simp only [Act.put, nA, nB, nC])
  refine wpList_val (v := ?_) rfl ?_ ?_
  rotate_left
  · (go_simp; (try (first | with_reducible rfl | (constructor <;> with_reducible rfl))))
  (try simp only [Act.put, nA, nB, nC])
  refine wpList_val (v := ?_) rfl ?_ ?_
  rotate_left
  · (go_simp; (try (first | with_reducible rfl | (constructor <;> with_reducible rfl))))
  (try simp only [Act.put, nA, nB, nC])
  first | (refine wpList_val (v := ?_) (by rfl) ?_ ?_; rotate_left; focus ((go_simp; (try (first | with_reducible rfl | (constructor <;> with_reducible rfl)))))) | refine wpList_skip (by rfl) ?_
  (try simp only [Act.put, nA, nB, nC])
  first | (refine wpList_val (v := ?_) (by rfl) ?_ ?_; rotate_left; focus ((go_simp; (try (first | with_reducible rfl | (constructor <;> with_reducible rfl)))))) | refine wpList_skip (by rfl) ?_
  (try simp only [Act.put, nA, nB, nC])
  refine wpList_val (v := ?_) rfl ?_ ?_
  rotate_left
  · (go_simp; (try (first | with_reducible rfl | (constructor <;> with_reducible rfl))))
  (try simp only [Act.put, nA, nB, nC])
  refine wpList_val (v := ?_) rfl ?_ ?_
  rotate_left
  · (go_simp; (try (first | with_reducible rfl | (constructor <;> with_reducible rfl))))
  (try simp only [Act.put, nA, nB, nC])
  first | (refine wpList_val (v := ?_) (by rfl) ?_ ?_; rotate_left; focus ((go_simp; (try (first | with_reducible rfl | (constructor <;> with_reducible rfl)))))) | refine wpList_skip (by rfl) ?_
  (try simp only [Act.put, nA, nB, nC])
  first | (refine wpList_val (v := ?_) (by rfl) ?_ ?_; rotate_left; focus ((go_simp; (try (first | with_reducible rfl | (constructor <;> with_reducible rfl)))))) | refine wpList_skip (by rfl) ?_
  (try simp only [Act.put, nA, nB, nC])
  first | (refine wpList_val (v := ?_) (by rfl) ?_ ?_; rotate_left; focus ((go_simp; rw [t7.out]))) | refine wpList_skip (by rfl) ?_
  (try simp only [Act.put, nA, nB, nC])
  refine wpList_val (v := ?_) rfl ?_ ?_
  rotate_left
  · (go_simp; (try (first | with_reducible rfl | (constructor <;> with_reducible rfl))))
  (try simp only [Act.put, nA, nB, nC])
  refine wpList_val (v := ?_) rfl ?_ ?_
  rotate_left
  · (go_simp; (try (first | with_reducible rfl | (constructor <;> with_reducible rfl))))
  (try simp only [Act.put, nA, nB, nC])
  first | (refine wpList_val (v := ?_) (by rfl) ?_ ?_; rotate_left; focus ((go_simp; (try (first | with_reducible rfl | (constructor <;> with_reducible rfl)))))) | refine wpList_skip (by rfl) ?_
  (try simp only [Act.put, nA, nB, nC])
  first | (refine wpList_val (v := ?_) (by rfl) ?_ ?_; rotate_left; focus ((go_simp; (try (first | with_reducible rfl | (constructor <;> with_reducible rfl)))))) | refine wpList_skip (by rfl) ?_
  (try simp only [Act.put, nA, nB, nC])
  first | (refine wpList_val (v := ?_) (by rfl) ?_ ?_; rotate_left; focus ((go_simp; rw [t8.out]))) | refine wpList_skip (by rfl) ?_
  (try simp only [Act.put, nA, nB, nC])
  refine wpList_val (v := ?_) rfl ?_ ?_
  rotate_left
  · (go_simp; (try (first | with_reducible rfl | (constructor <;> with_reducible rfl))))
  (try simp only [Act.put, nA, nB, nC])
  refine wpList_val (v := ?_) rfl ?_ ?_
  rotate_left
  · (go_simp; (try (first | with_reducible rfl | (constructor <;> with_reducible rfl))))
  (try simp only [Act.put, nA, nB, nC])
  first | (refine wpList_val (v := ?_) (by rfl) ?_ ?_; rotate_left; focus ((go_simp; (try (first | with_reducible rfl | (constructor <;> with_reducible rfl)))))) | refine wpList_skip (by rfl) ?_
  (try simp only [Act.put, nA, nB, nC])
  first | (refine wpList_val (v := ?_) (by rfl) ?_ ?_; rotate_left; focus ((go_simp; (try (first | with_reducible rfl | (constructor <;> with_reducible rfl)))))) | refine wpList_skip (by rfl) ?_
  (try simp only [Act.put, nA, nB, nC])
  refine wpList_val (v := ?_) rfl ?_ ?_
  rotate_left
  · (go_simp; (try (first | with_reducible rfl | (constructor <;> with_reducible rfl))))
  (try simp only [Act.put, nA, nB, nC])
  refine wpList_val (v := ?_) rfl ?_ ?_
  rotate_left
  · (go_simp; (try (first | with_reducible rfl | (constructor <;> with_reducible rfl))))
  (try simp only [Act.put, nA, nB, nC])
  first | (refine wpList_val (v := ?_) (by rfl) ?_ ?_; rotate_left; focus ((go_simp; (try (first | with_reducible rfl | (constructor <;> with_reducible rfl)))))) | refine wpList_skip (by rfl) ?_
  (try simp only [Act.put, nA, nB, nC])
  first | (refine wpList_val (v := ?_) (by rfl) ?_ ?_; rotate_left; focus ((go_simp; (try (first | with_reducible rfl | (constructor <;> with_reducible rfl)))))) | refine wpList_skip (by rfl) ?_
  (try simp only [Act.put, nA, nB, nC])
  refine wpList_val (v := ?_) rfl ?_ ?_
  rotate_left
  · (go_simp; (try (first | with_reducible rfl | (constructor <;> with_reducible rfl))))
  (try simp only [Act.put, nA, nB, nC])
  refine wpList_nil ?_
  clear t1 t2 t3 t4 t5 t6 t7 t8 t9 tA
  have P1 := S1.out.2
  go_upto_region 5 with fail
  refine wp_region_lit ?_
  refine wpList_val (v := ?_) rfl ?_ ?_
  rotate_left
  · refine Eq.trans (run_load_row 25 (.tmp 5) (by rfl) (w.heap.size) (by rfl) _ _ _ _ (P1) Try.underlying25 rfl (icov.trans (by rw [arrv_size]))) ?_; with_reducible rfl
  (try simp only [Act.put, nA, nB, nC])
  refine wpList_step (fun K hK => ?_)
  go_simp
  (refine (PC.out _).mono ?_); rintro e w2 ⟨rfl, hb2⟩; have S2 := Lib.hid (And.intro (Below.after S1.out.1 hb2) (S1.out.2.below hb2)); clear hb2; have P2 := S2.out.2
  (try dsimp only)
  (try simp only [Act.put, nA, nB, nC])
  refine hK _ _ ?_
  clear hK K
  refine wpList_done (w' := ?_) rfl ?_ ?_
  rotate_left
  · refine Eq.trans (run_store_row 25 (.tmp 5) (.tmp 61) (by rfl) (w.heap.size) (by rfl) (by rfl) (P2) (icov.trans rfl)) ?_; with_reducible rfl
  (try simp only [Act.put, nA, nB, nC])
  refine wpList_nil ?_
  have S3 := Lib.hid (And.intro (below_row S2.out.1 (Nat.le_refl w.heap.size) (arrv 300 P)) (P2.setRow P))
  generalize w2.setRow w.heap.size (arrv 300 P) = W3 at *
  clear S1 S2 P1 P2 PC
  go_upto_region 7 with fail
  obtain ⟨bc, hbc⟩ : ∃ x, W3.heap.size = x := ⟨_, rfl⟩
  have K4 := Lib.hid (Flg.new W3 false)
  have b4 : Below W3.heap.size W3 (W3.alloc (.cells #[.bool false] 32)) := (Below.refl _ _).alloc (Nat.le_refl _) _
  have hl4 : w.heap.size < bc := by rw [← hbc]; exact S3.out.2.lt
  have R4 := Lib.hid (And.intro (Below.after S3.out.1 b4) (And.intro (S3.out.2.below b4) hl4))
  rw [hbc] at K4 ⊢
  generalize W3.alloc (.cells #[.bool false] 32) = W4 at *
  clear S3 hbc b4 hl4
  have M4 := Lib.hid (ls_nil K4.out.cell K4.out.free)
  clear K4
  have P4 := R4.out.2.1
  go_upto_region 7 with fail
  refine wp_region_lit ?_
  refine wpList_val (v := ?_) rfl ?_ ?_
  rotate_left
  · (go_simp; (try (first | with_reducible rfl | (constructor <;> with_reducible rfl))))
  (try simp only [Act.put, nA, nB, nC])
  refine wpList_val (v := ?_) rfl ?_ ?_
  rotate_left
  · refine Eq.trans (run_load_row 25 (.tmp 5) (by rfl) (w.heap.size) (by rfl) _ _ _ _ (P4) Try.underlying25 rfl (icov.trans (by rw [arrv_size]))) ?_; with_reducible rfl
  (try simp only [Act.put, nA, nB, nC])
  refine wpList_val (v := ?_) rfl ?_ ?_
  rotate_left
  · (go_simp; (try (first | with_reducible rfl | (constructor <;> with_reducible rfl))))
  (try simp only [Act.put, nA, nB, nC])
  refine wpList_val (v := ?_) rfl ?_ ?_
  rotate_left
  · (go_simp; (try (first | with_reducible rfl | (constructor <;> with_reducible rfl))))
  (try simp only [Act.put, nA, nB, nC])
  refine wpList_act (v := ?_) (w' := ?_) rfl ?_ ?_
  rotate_left 2
  · (go_simp; (try (first | with_reducible rfl | (constructor <;> with_reducible rfl))))
  (try simp only [Act.put, nA, nB, nC])
  refine wpList_step (fun K hK => ?_)
  go_simp
  have M5 := M4.out.alloc (.cells #[.int .i64 v] 2); (refine (RC.out _ _ _ M5.cell M5.free (slc_1 W4 v)).mono ?_); rintro e w5 ⟨rfl, hu⟩; have M6 := Lib.hid (M5.upd' hu); clear hu M5 M4 P4
  (try dsimp only)
  (try simp only [Act.put, nA, nB, nC])
  refine hK _ _ ?_
  clear hK K
  refine wpList_act (v := ?_) (w' := ?_) rfl ?_ ?_
  rotate_left 2
  · (go_simp; (try (first | with_reducible rfl | (constructor <;> with_reducible rfl))))
  (try simp only [Act.put, nA, nB, nC])
  refine wpList_done (w' := ?_) rfl ?_ ?_
  rotate_left
  · (refine Eq.trans (run_store_row 25 (.tmp 12) (.tmp 69) (by rfl) (w5.heap.size) (by rfl) (by rfl) (zblk w5) (icov.trans rfl)) ?_; with_reducible rfl)
  (try simp only [Act.put, nA, nB, nC])
  refine wpList_nil ?_
  have M7 := M6.out.put 25 300 (fun _ => 0) A
  rw [← zcov] at M7
  have M7 := Lib.hid M7
  obtain ⟨ab, hab⟩ : ∃ x, w5.heap.size = x := ⟨_, rfl⟩
  rw [hab] at M7 ⊢
  generalize (w5.alloc (.cells Try.zeroCells25 25)).setRow ab (arrv 300 A) = W7 at *
  clear hab M6
  have P7 := R4.out.2.1.upd M7.out.upd (by have := R4.out.2.2; simp only; omega)
  go_upto_region 8 with fail
  refine wp_region_lit ?_
  refine wpList_val (v := ?_) rfl ?_ ?_
  rotate_left
  · (go_simp; (try (first | with_reducible rfl | (constructor <;> with_reducible rfl))))
  (try simp only [Act.put, nA, nB, nC])
  refine wpList_val (v := ?_) rfl ?_ ?_
  rotate_left
  · refine Eq.trans (run_load_row 25 (.tmp 5) (by rfl) (w.heap.size) (by rfl) _ _ _ _ (P7) Try.underlying25 rfl (icov.trans (by rw [arrv_size]))) ?_; with_reducible rfl
  (try simp only [Act.put, nA, nB, nC])
  refine wpList_val (v := ?_) rfl ?_ ?_
  rotate_left
  · (go_simp; (try (first | with_reducible rfl | (constructor <;> with_reducible rfl))))
  (try simp only [Act.put, nA, nB, nC])
  refine wpList_act (v := ?_) (w' := ?_) rfl ?_ ?_
  rotate_left 2
  · (go_simp; (try (first | with_reducible rfl | (constructor <;> with_reducible rfl))))
  (try simp only [Act.put, nA, nB, nC])
  refine wpList_step (fun K hK => ?_)
  go_simp
  have M5 := M7.out.alloc (.cells #[.int .i64 (k : Int)] 3); (refine (FC.out _ _ _ M5.cell M5.free (slc_i1 W7 (k : Int))).mono ?_); rintro e w8 ⟨rfl, hu⟩; have M8 := Lib.hid (M5.upd' hu); clear hu M5 M7 P7
  (try dsimp only)
  (try simp only [Act.put, nA, nB, nC])
  refine hK _ _ ?_
  clear hK K
  refine wpList_act (v := ?_) (w' := ?_) rfl ?_ ?_
  rotate_left 2
  · (go_simp; (try (first | with_reducible rfl | (constructor <;> with_reducible rfl))))
  (try simp only [Act.put, nA, nB, nC])
  refine wpList_done (w' := ?_) rfl ?_ ?_
  rotate_left
  · (refine Eq.trans (run_store_row 25 (.tmp 13) (.tmp 74) (by rfl) (w8.heap.size) (by rfl) (by rfl) (zblk w8) (icov.trans rfl)) ?_; with_reducible rfl)
  (try simp only [Act.put, nA, nB, nC])
  refine wpList_nil ?_
  have M9 := M8.out.put 25 300 (fun _ => 0) B
  rw [← zcov] at M9
  have M9 := Lib.hid M9
  obtain ⟨bb, hbb⟩ : ∃ x, w8.heap.size = x := ⟨_, rfl⟩
  rw [hbb] at M9 ⊢
  generalize (w8.alloc (.cells Try.zeroCells25 25)).setRow bb (arrv 300 B) = W9 at *
  clear hbb M8
  have n1 := N1.out.1
  have n2 := N2.out.1
  have HS := Lib.hid (M9.out.drew)
  go_upto_region 9 with fail
  refine wp_region_M (fun w' => Blk w' ab 25 300 A ∧ Blk w' w.heap.size 25 300 P) 11 (by kernel_rfl) ?_ (fun hHeld => ?_)
  · exact ⟨HS.out.e1, R4.out.2.1.upd HS.out.upd (by have := R4.out.2.2; simp only; omega)⟩
  refine wpAnyM_take 0 (v := ?_) rfl (by kernel_rfl) (fun _ _ _ h => h) (Or.inl ⟨by rfl, ?_⟩) (by assumption) ?_
  rotate_left
  · (intro wx hSw; (try dsimp only at hSw); go_simp; (try with_reducible rfl))
  (try simp only [Act.put, nA, nB, nC])
  refine wpAnyM_take 1 (v := ?_) rfl (by kernel_rfl) (fun _ _ _ h => h) (Or.inl ⟨by rfl, ?_⟩) (by assumption) ?_
  rotate_left
  · (intro wx hSw; refine Eq.trans (run_load_row 25 (.tmp 12) (by rfl) (ab) (by rfl) _ _ _ _ (hSw.1) Try.underlying25 rfl (icov.trans (by rw [arrv_size]))) ?_; with_reducible rfl)
  (try simp only [Act.put, nA, nB, nC])
  refine wpAnyM_take 2 (v := ?_) rfl (by kernel_rfl) (fun _ _ _ h => h) (Or.inl ⟨by rfl, ?_⟩) (by assumption) ?_
  rotate_left
  · (intro wx hSw; (try dsimp only at hSw); go_simp; (try with_reducible rfl))
  (try simp only [Act.put, nA, nB, nC])
  refine wpAnyM_take 3 (v := ?_) rfl (by kernel_rfl) (fun _ _ _ h => h) (Or.inl ⟨by rfl, ?_⟩) (by assumption) ?_
  rotate_left
  · (intro wx hSw; (try dsimp only at hSw); go_simp; (try with_reducible rfl))
  (try simp only [Act.put, nA, nB, nC])
  refine wpAnyM_take 5 (v := ?_) rfl (by kernel_rfl) (fun _ _ _ h => h) (Or.inl ⟨by rfl, ?_⟩) (by assumption) ?_
  rotate_left
  · (intro wx hSw; (try dsimp only at hSw); go_simp; (try with_reducible rfl))
  (try simp only [Act.put, nA, nB, nC])
  refine wpAnyM_take 6 (v := ?_) rfl (by kernel_rfl) (fun _ _ _ h => h) (Or.inl ⟨by rfl, ?_⟩) (by assumption) ?_
  rotate_left
  · (intro wx hSw; refine Eq.trans (run_load_row 25 (.tmp 5) (by rfl) (w.heap.size) (by rfl) _ _ _ _ (hSw.2) Try.underlying25 rfl (icov.trans (by rw [arrv_size]))) ?_; with_reducible rfl)
  (try simp only [Act.put, nA, nB, nC])
  refine wpAnyM_take 7 (v := ?_) rfl (by kernel_rfl) (fun _ _ _ h => h) (Or.inl ⟨by rfl, ?_⟩) (by assumption) ?_
  rotate_left
  · (intro wx hSw; (try dsimp only at hSw); go_simp; (try with_reducible rfl))
  (try simp only [Act.put, nA, nB, nC])
  refine wpAnyM_take 8 (v := ?_) rfl (by kernel_rfl) (fun _ _ _ h => h) (Or.inl ⟨by rfl, ?_⟩) (by assumption) ?_
  rotate_left
  · (intro wx hSw; (try dsimp only at hSw); go_simp; (try with_reducible rfl))
  (try simp only [Act.put, nA, nB, nC])
  refine wpAnyM_oneS 4 rfl (by kernel_rfl) (fun K hK => ?_)
  go_simp
  (refine (C1.out _ _ HS.out.cell HS.out.free).mono ?_); rintro e w1 ⟨rfl, hu⟩; have HS2 := Lib.hid (HS.out.upd' hu); clear HS hu; have HS := HS2; clear HS2
  (try dsimp only)
  (try simp only [Act.put, nA, nB, nC])
  clear hHeld
  refine hK.out _ _ ?_ (fun hHeld => ?_)
  · exact ⟨HS.out.e1, R4.out.2.1.upd HS.out.upd (by have := R4.out.2.2; simp only; omega)⟩
  clear hK K
  (try simp only [Act.put, nA, nB, nC])
  refine wpAnyM_oneS 9 rfl (by kernel_rfl) (fun K hK => ?_)
  go_simp
  (refine (C2.out _ _ HS.out.cell HS.out.free).mono ?_); rintro e w2 ⟨rfl, hu⟩; have HS2 := Lib.hid (HS.out.upd' hu); clear HS hu; have HS := HS2; clear HS2
  (try dsimp only)
  (try simp only [Act.put, nA, nB, nC])
  clear hHeld
  refine hK.out _ _ ?_ (fun hHeld => ?_)
  · exact ⟨HS.out.e1, R4.out.2.1.upd HS.out.upd (by have := R4.out.2.2; simp only; omega)⟩
  clear hK K
  (try simp only [Act.put, nA, nB, nC])
  refine wpAnyM_take 10 (v := ?_) rfl (by kernel_rfl) (fun _ _ _ h => h) (Or.inl ⟨by rfl, ?_⟩) (by assumption) ?_
  rotate_left
  · (intro wx hSw; (try dsimp only at hSw); go_simp; (try with_reducible rfl))
  (try simp only [Act.put, nA, nB, nC])
  refine wpAnyM_one 11 rfl (by kernel_rfl) (fun K hK => ?_)
  go_simp
  refine hK.out _ _ (.inl (by kernel_rfl)) (fun _ => ?_)
  clear hK K
  (try simp only [Act.put, nA, nB, nC])
  refine wpAnyM_done (by kernel_rfl) ?_ _
  have M9b := HS
  clear HS M9
  have M9 := M9b
  clear M9b
  have HS := Lib.hid (M9.out.drew)
  go_upto_region 10 with fail
  refine wp_region_M (fun w' => Blk w' bb 25 300 B ∧ Blk w' w.heap.size 25 300 P) 11 (by kernel_rfl) ?_ (fun hHeld => ?_)
  · exact ⟨HS.out.e0, R4.out.2.1.upd HS.out.upd (by have := R4.out.2.2; simp only; omega)⟩
  refine wpAnyM_take 0 (v := ?_) rfl (by kernel_rfl) (fun _ _ _ h => h) (Or.inl ⟨by rfl, ?_⟩) (by assumption) ?_
  rotate_left
  · (intro wx hSw; (try dsimp only at hSw); go_simp; (try with_reducible rfl))
  (try simp only [Act.put, nA, nB, nC])
  refine wpAnyM_take 1 (v := ?_) rfl (by kernel_rfl) (fun _ _ _ h => h) (Or.inl ⟨by rfl, ?_⟩) (by assumption) ?_
  rotate_left
  · (intro wx hSw; refine Eq.trans (run_load_row 25 (.tmp 13) (by rfl) (bb) (by rfl) _ _ _ _ (hSw.1) Try.underlying25 rfl (icov.trans (by rw [arrv_size]))) ?_; with_reducible rfl)
  (try simp only [Act.put, nA, nB, nC])
  refine wpAnyM_take 2 (v := ?_) rfl (by kernel_rfl) (fun _ _ _ h => h) (Or.inl ⟨by rfl, ?_⟩) (by assumption) ?_
  rotate_left
  · (intro wx hSw; (try dsimp only at hSw); go_simp; (try with_reducible rfl))
  (try simp only [Act.put, nA, nB, nC])
  refine wpAnyM_take 3 (v := ?_) rfl (by kernel_rfl) (fun _ _ _ h => h) (Or.inl ⟨by rfl, ?_⟩) (by assumption) ?_
  rotate_left
  · (intro wx hSw; (try dsimp only at hSw); go_simp; (try with_reducible rfl))
  (try simp only [Act.put, nA, nB, nC])
  refine wpAnyM_take 5 (v := ?_) rfl (by kernel_rfl) (fun _ _ _ h => h) (Or.inl ⟨by rfl, ?_⟩) (by assumption) ?_
  rotate_left
  · (intro wx hSw; (try dsimp only at hSw); go_simp; (try with_reducible rfl))
  (try simp only [Act.put, nA, nB, nC])
  refine wpAnyM_take 6 (v := ?_) rfl (by kernel_rfl) (fun _ _ _ h => h) (Or.inl ⟨by rfl, ?_⟩) (by assumption) ?_
  rotate_left
  · (intro wx hSw; refine Eq.trans (run_load_row 25 (.tmp 5) (by rfl) (w.heap.size) (by rfl) _ _ _ _ (hSw.2) Try.underlying25 rfl (icov.trans (by rw [arrv_size]))) ?_; with_reducible rfl)
  (try simp only [Act.put, nA, nB, nC])
  refine wpAnyM_take 7 (v := ?_) rfl (by kernel_rfl) (fun _ _ _ h => h) (Or.inl ⟨by rfl, ?_⟩) (by assumption) ?_
  rotate_left
  · (intro wx hSw; (try dsimp only at hSw); go_simp; (try with_reducible rfl))
  (try simp only [Act.put, nA, nB, nC])
  refine wpAnyM_take 8 (v := ?_) rfl (by kernel_rfl) (fun _ _ _ h => h) (Or.inl ⟨by rfl, ?_⟩) (by assumption) ?_
  rotate_left
  · (intro wx hSw; (try dsimp only at hSw); go_simp; (try with_reducible rfl))
  (try simp only [Act.put, nA, nB, nC])
  refine wpAnyM_oneS 4 rfl (by kernel_rfl) (fun K hK => ?_)
  go_simp
  (refine (C3.out _ _ HS.out.cell HS.out.free).mono ?_); rintro e w1 ⟨rfl, hu⟩; have HS2 := Lib.hid (HS.out.upd' hu); clear HS hu; have HS := HS2; clear HS2
  (try dsimp only)
  (try simp only [Act.put, nA, nB, nC])
  clear hHeld
  refine hK.out _ _ ?_ (fun hHeld => ?_)
  · exact ⟨HS.out.e0, R4.out.2.1.upd HS.out.upd (by have := R4.out.2.2; simp only; omega)⟩
  clear hK K
  (try simp only [Act.put, nA, nB, nC])
  refine wpAnyM_oneS 9 rfl (by kernel_rfl) (fun K hK => ?_)
  go_simp
  (refine (C2.out _ _ HS.out.cell HS.out.free).mono ?_); rintro e w2 ⟨rfl, hu⟩; have HS2 := Lib.hid (HS.out.upd' hu); clear HS hu; have HS := HS2; clear HS2
  (try dsimp only)
  (try simp only [Act.put, nA, nB, nC])
  clear hHeld
  refine hK.out _ _ ?_ (fun hHeld => ?_)
  · exact ⟨HS.out.e0, R4.out.2.1.upd HS.out.upd (by have := R4.out.2.2; simp only; omega)⟩
  clear hK K
  (try simp only [Act.put, nA, nB, nC])
  refine wpAnyM_take 10 (v := ?_) rfl (by kernel_rfl) (fun _ _ _ h => h) (Or.inl ⟨by rfl, ?_⟩) (by assumption) ?_
  rotate_left
  · (intro wx hSw; (try dsimp only at hSw); go_simp; (try with_reducible rfl))
  (try simp only [Act.put, nA, nB, nC])
  refine wpAnyM_one 11 rfl (by kernel_rfl) (fun K hK => ?_)
  go_simp
  refine hK.out _ _ (.inl (by kernel_rfl)) (fun _ => ?_)
  clear hK K
  (try simp only [Act.put, nA, nB, nC])
  refine wpAnyM_done (by kernel_rfl) ?_ _
  have M9b := HS
  clear HS M9
  have M9 := M9b
  clear M9b
  have HS := Lib.hid (M9.out.drew)
  go_upto_region 11 with fail
  refine wp_region_M (fun w' => Blk w' bb 25 300 B ∧ Blk w' w.heap.size 25 300 P) 11 (by kernel_rfl) ?_ (fun hHeld => ?_)
  · exact ⟨HS.out.e0, R4.out.2.1.upd HS.out.upd (by have := R4.out.2.2; simp only; omega)⟩
  refine wpAnyM_take 0 (v := ?_) rfl (by kernel_rfl) (fun _ _ _ h => h) (Or.inl ⟨by rfl, ?_⟩) (by assumption) ?_
  rotate_left
  · (intro wx hSw; (try dsimp only at hSw); go_simp; (try with_reducible rfl))
  (try simp only [Act.put, nA, nB, nC])
  refine wpAnyM_take 1 (v := ?_) rfl (by kernel_rfl) (fun _ _ _ h => h) (Or.inl ⟨by rfl, ?_⟩) (by assumption) ?_
  rotate_left
  · (intro wx hSw; refine Eq.trans (run_load_row 25 (.tmp 13) (by rfl) (bb) (by rfl) _ _ _ _ (hSw.1) Try.underlying25 rfl (icov.trans (by rw [arrv_size]))) ?_; with_reducible rfl)
  (try simp only [Act.put, nA, nB, nC])
  refine wpAnyM_take 2 (v := ?_) rfl (by kernel_rfl) (fun _ _ _ h => h) (Or.inl ⟨by rfl, ?_⟩) (by assumption) ?_
  rotate_left
  · (intro wx hSw; (try dsimp only at hSw); go_simp; (try with_reducible rfl))
  (try simp only [Act.put, nA, nB, nC])
  refine wpAnyM_take 3 (v := ?_) rfl (by kernel_rfl) (fun _ _ _ h => h) (Or.inl ⟨by rfl, ?_⟩) (by assumption) ?_
  rotate_left
  · (intro wx hSw; (try dsimp only at hSw); go_simp; (try with_reducible rfl))
  (try simp only [Act.put, nA, nB, nC])
  refine wpAnyM_take 5 (v := ?_) rfl (by kernel_rfl) (fun _ _ _ h => h) (Or.inl ⟨by rfl, ?_⟩) (by assumption) ?_
  rotate_left
  · (intro wx hSw; (try dsimp only at hSw); go_simp; (try with_reducible rfl))
  (try simp only [Act.put, nA, nB, nC])
  refine wpAnyM_take 6 (v := ?_) rfl (by kernel_rfl) (fun _ _ _ h => h) (Or.inl ⟨by rfl, ?_⟩) (by assumption) ?_
  rotate_left
  · (intro wx hSw; refine Eq.trans (run_load_row 25 (.tmp 5) (by rfl) (w.heap.size) (by rfl) _ _ _ _ (hSw.2) Try.underlying25 rfl (icov.trans (by rw [arrv_size]))) ?_; with_reducible rfl)
  (try simp only [Act.put, nA, nB, nC])
  refine wpAnyM_take 7 (v := ?_) rfl (by kernel_rfl) (fun _ _ _ h => h) (Or.inl ⟨by rfl, ?_⟩) (by assumption) ?_
  rotate_left
  · (intro wx hSw; (try dsimp only at hSw); go_simp; (try with_reducible rfl))
  (try simp only [Act.put, nA, nB, nC])
  refine wpAnyM_take 8 (v := ?_) rfl (by kernel_rfl) (fun _ _ _ h => h) (Or.inl ⟨by rfl, ?_⟩) (by assumption) ?_
  rotate_left
  · (intro wx hSw; (try dsimp only at hSw); go_simp; (try with_reducible rfl))
  (try simp only [Act.put, nA, nB, nC])
  refine wpAnyM_oneS 4 rfl (by kernel_rfl) (fun K hK => ?_)
  go_simp
  (refine (C4.out _ _ HS.out.cell HS.out.free).mono ?_); rintro e w1 ⟨rfl, hu⟩; have HS2 := Lib.hid (HS.out.upd' hu); clear HS hu; have HS := HS2; clear HS2
  (try dsimp only)
  (try simp only [Act.put, nA, nB, nC])
  clear hHeld
  refine hK.out _ _ ?_ (fun hHeld => ?_)
  · exact ⟨HS.out.e0, R4.out.2.1.upd HS.out.upd (by have := R4.out.2.2; simp only; omega)⟩
  clear hK K
  (try simp only [Act.put, nA, nB, nC])
  refine wpAnyM_oneS 9 rfl (by kernel_rfl) (fun K hK => ?_)
  go_simp
  (refine (C5.out _ _ HS.out.cell HS.out.free).mono ?_); rintro e w2 ⟨rfl, hu⟩; have HS2 := Lib.hid (HS.out.upd' hu); clear HS hu; have HS := HS2; clear HS2
  (try dsimp only)
  (try simp only [Act.put, nA, nB, nC])
  clear hHeld
  refine hK.out _ _ ?_ (fun hHeld => ?_)
  · exact ⟨HS.out.e0, R4.out.2.1.upd HS.out.upd (by have := R4.out.2.2; simp only; omega)⟩
  clear hK K
  (try simp only [Act.put, nA, nB, nC])
  refine wpAnyM_take 10 (v := ?_) rfl (by kernel_rfl) (fun _ _ _ h => h) (Or.inl ⟨by rfl, ?_⟩) (by assumption) ?_
  rotate_left
  · (intro wx hSw; (try dsimp only at hSw); go_simp; (try with_reducible rfl))
  (try simp only [Act.put, nA, nB, nC])
  refine wpAnyM_one 11 rfl (by kernel_rfl) (fun K hK => ?_)
  go_simp
  refine hK.out _ _ (.inl (by kernel_rfl)) (fun _ => ?_)
  clear hK K
  (try simp only [Act.put, nA, nB, nC])
  refine wpAnyM_done (by kernel_rfl) ?_ _
  have M9b := HS
  clear HS M9
  have M9 := M9b
  clear M9b
  have d1 := N1.out.2.1
  have d2 := N1.out.2.2
  have d3 := N2.out.2.1
  have d4 := N2.out.2.2
  have g5 : IntKind.i64.wrap (-4294967296) = -4294967296 := by decide
  have cc := M9.out.cell
  have HZ := Lib.hid (own_upd R4.out.1 (show w.heap.size ≤ bc by have := R4.out.2.2; omega) M9.out.upd)
  clear n1 n2 R4 M9
  go_wp2_with fail
  go_ret
  exact ⟨rfl, HZ.out⟩
theorem oth_walk (P : Nat → Int) (k i j v : Int) (w : World) (hk : -9223372036854775808 ≤ k ∧ k ≤ 9223372036854775807) (hi : -9223372036854775808 ≤ i ∧ i ≤ 9223372036854775807) (hj : -9223372036854775808 ≤ j ∧ j ≤ 9223372036854775807) :
    Calls Try.prog 5 #[.agg (arrv 300 P), .int .i64 k, .int .i64 i, .int .i64 j, .int .i64 v] w fun e w' => e = .returned (.bool true) ∧ Below w.heap.size w w' := by
  by_cases h : k < 0 ∨ 23 < k ∨ i < 0 ∨ 23 < i ∨ j < 0 ∨ 23 < j ∨ i = k ∨ j = k ∨ v < 1 ∨ 17592186044416 < v
  · exact oth_noop P k i j v w h
  · obtain ⟨a, rfl⟩ : ∃ a : Nat, k = (a : Int) := ⟨k.toNat, by omega⟩
    obtain ⟨b, rfl⟩ : ∃ a : Nat, i = (a : Int) := ⟨i.toNat, by omega⟩
    obtain ⟨c, rfl⟩ : ∃ a : Nat, j = (a : Int) := ⟨j.toNat, by omega⟩
    exact oth_yes P a b c v w (by omega) (by omega) (by omega) (by omega) (by omega) (by omega)
end Go.Proofs.Ytipkdkeacdmnaaa
