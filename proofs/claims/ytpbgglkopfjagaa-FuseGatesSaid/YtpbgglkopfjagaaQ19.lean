/- Contracts of the program's functions and plain laws, part 19: they hold for all arguments. -/
import Derived.Test.YtpbgglkopfjagaaQ15
import Derived.Test.YtpbgglkopfjagaaQ17
import Derived.Test.YtpbgglkopfjagaaQ18
import Derived.Test.YtpbgglkopfjagaaQ16
import Derived.Test.YtpbgglkopfjagaaQ04
import Derived.Carry
import Derived.ProofKit
/- The walk of FuseGates. -/
namespace Go.Proofs.Ytpbgglkopfjagaa
open Go.RowKit
set_option maxRecDepth 100000
/-- The sizes' order is the law's. -/
theorem gates_plain {y s g : Int} {A G V : Nat} (hg : 1 ≤ g) (hg2 : g ≤ 1000) (hs : 1 ≤ satV s) (hA : (satV y).natAbs = A) (hG : g.natAbs = G) (hV : (satV s).natAbs = V) {r : Int}
    (hr : (if A * A = G * G * (V * 65536) then 0 else if A * A < G * G * (V * 65536) then -1 else 1) = r) : decide (r ≤ 0) = likB y s g := by
  have e1 : satV y * satV y = ((A * A : Nat) : Int) := by rw [← hA]; exact Int.natAbs_mul_self.symm
  have e2 : g = (G : Int) := by omega
  have e3 : satV s = (V : Int) := by omega
  unfold likB
  rw [show decide (1 ≤ g) = true by simpa using hg, show decide (g ≤ 1000) = true by simpa using hg2, show decide (1 ≤ satV s) = true by simpa using hs, e1, e2, e3]
  simp only [Bool.true_and, decide_eq_decide]
  rw [show ((G : Int) * (G : Int) * 65536 * (V : Int)) = ((G * G * (V * 65536) : Nat) : Int) by rw [show G * G * (V * 65536) = G * G * 65536 * V by rw [Nat.mul_comm V, ← Nat.mul_assoc]]; simp [Int.natCast_mul]]
  obtain ⟨a, ha⟩ : ∃ x, A * A = x := ⟨_, rfl⟩
  obtain ⟨b, hb⟩ : ∃ x, G * G * (V * 65536) = x := ⟨_, rfl⟩
  rw [ha, hb] at hr
  rw [ha, hb, ← hr]
  split
  · omega
  · split <;> omega
/-- The reference's flag, and what is above the start. -/
structure GtA (c : Nat) (w wr : World) : Prop where
  below : Below w.heap.size w wr
  acc : ∃ h, Row wr c 46 #[.bool h]
  le : w.heap.size ≤ c
theorem GtA.down {c : Nat} {w wr w' : World} (s : GtA c w wr) (k : Below wr.heap.size wr w') : GtA c w w' := by
  obtain ⟨h, hc⟩ := s.acc
  exact ⟨s.below.trans (k.mono s.below.size), ⟨h, hc.below k⟩, s.le⟩
theorem GtA.set {c : Nat} {w wr : World} (s : GtA c w wr) (h : Bool) : GtA c w (wr.setCell ⟨c, 0, none⟩ (.bool h)) := by
  obtain ⟨h0, hc⟩ := s.acc
  exact ⟨s.below.setCell s.le _, ⟨h, hc.set 0 _⟩, s.le⟩
theorem GtA.row {c : Nat} {w wr : World} (s : GtA c w wr) {b : Nat} (hb : w.heap.size ≤ b) (hn : c ≠ b) (cs : Array Value) : GtA c w (wr.setRow b cs) := by
  obtain ⟨h, hc⟩ := s.acc
  exact ⟨below_row s.below hb _, ⟨h, hc.setRow_other _ hn⟩, s.le⟩
theorem gt_sat (c : Nat) (a : Int) {w wr : World} (s : GtA c w wr) :
    Calls Try.prog 10 #[.pointer (some ⟨c, 0, none⟩), .int .i64 a] wr fun e w' => e = .returned (.int .i64 (satV a)) ∧ ∃ h, wr.setCell ⟨c, 0, none⟩ (.bool h) = w' := by
  obtain ⟨h, hc⟩ := s.acc
  refine (bsat_any ⟨c, 0, none⟩ h a wr (hc.at rfl) (hc.free 0)).mono ?_
  rintro e w' ⟨rfl, rfl⟩
  exact ⟨rfl, _, rfl⟩
/-- With one Big. -/
structure GtB (c b : Nat) (m : Bool) (f : Nat → Nat) (w wr : World) : Prop where
  a : GtA c w wr
  r : Row wr b 50 (bg m f)
  lt : c < b
theorem GtB.down {c b : Nat} {m : Bool} {f : Nat → Nat} {w wr w' : World} (s : GtB c b m f w wr) (k : Below wr.heap.size wr w') : GtB c b m f w w' := ⟨s.a.down k, s.r.below k, s.lt⟩
theorem GtB.set {c b : Nat} {m : Bool} {f : Nat → Nat} {w wr : World} (s : GtB c b m f w wr) (h : Bool) : GtB c b m f w (wr.setCell ⟨c, 0, none⟩ (.bool h)) := ⟨s.a.set h, s.r.other (by have := s.lt; simp; omega) _, s.lt⟩
theorem gt_new {c : Nat} {w wr : World} (s : GtA c w wr) (m : Bool) (f : Nat → Nat) :
    Row (wr.alloc (.cells #[.bool false, .int .u64 0, .int .u64 0, .int .u64 0, .int .u64 0, .int .u64 0, .int .u64 0, .int .u64 0, .int .u64 0] 50)) wr.heap.size 50 (bg false (fun _ => 0)) ∧
    GtB c wr.heap.size m f w ((wr.alloc (.cells #[.bool false, .int .u64 0, .int .u64 0, .int .u64 0, .int .u64 0, .int .u64 0, .int .u64 0, .int .u64 0, .int .u64 0] 50)).setRow wr.heap.size (bg m f)) := by
  have r0 : Row (wr.alloc (.cells #[.bool false, .int .u64 0, .int .u64 0, .int .u64 0, .int .u64 0, .int .u64 0, .int .u64 0, .int .u64 0, .int .u64 0] 50)) wr.heap.size 50 (bg false (fun _ => 0)) := by rw [zbg]; exact Row.new _ _ _
  obtain ⟨h, hc⟩ := s.acc
  have lt : c < wr.heap.size := hc.lt
  have s2 := s.down ((Below.refl _ _).alloc (Nat.le_refl _) (.cells #[.bool false, .int .u64 0, .int .u64 0, .int .u64 0, .int .u64 0, .int .u64 0, .int .u64 0, .int .u64 0, .int .u64 0] 50))
  exact ⟨r0, s2.row s.below.size (by omega) _, r0.setRow _, lt⟩
theorem GtA.start (w w1 : World) (hb : Below w.heap.size w w1) : GtA w1.heap.size w (w1.alloc (.cells #[.bool false] 46)) :=
  ⟨hb.alloc hb.size _, ⟨false, Row.new _ _ _⟩, hb.size⟩
/-- With both. -/
structure GtC (c b d : Nat) (m : Bool) (f g : Nat → Nat) (w wr : World) : Prop where
  b : GtB c b m f w wr
  s : Row wr d 50 (bg false g)
theorem GtC.down {c b d : Nat} {m : Bool} {f g : Nat → Nat} {w wr w' : World} (s : GtC c b d m f g w wr) (k : Below wr.heap.size wr w') : GtC c b d m f g w w' := ⟨s.b.down k, s.s.below k⟩
theorem gt_new2 {c b : Nat} {m : Bool} {f : Nat → Nat} {w wr : World} (s : GtB c b m f w wr) (g : Nat → Nat) :
    Row (wr.alloc (.cells #[.bool false, .int .u64 0, .int .u64 0, .int .u64 0, .int .u64 0, .int .u64 0, .int .u64 0, .int .u64 0, .int .u64 0] 50)) wr.heap.size 50 (bg false (fun _ => 0)) ∧
    GtC c b wr.heap.size m f g w ((wr.alloc (.cells #[.bool false, .int .u64 0, .int .u64 0, .int .u64 0, .int .u64 0, .int .u64 0, .int .u64 0, .int .u64 0, .int .u64 0] 50)).setRow wr.heap.size (bg false g)) := by
  obtain ⟨r0, t⟩ := gt_new s.a false g
  exact ⟨r0, ⟨t.a, (s.r.alloc _).setRow_other _ (by have := s.r.lt; omega), s.lt⟩, t.r⟩
/-- Where the gate or the variance is none. -/
theorem gates_no (y s g : Int) (w : World) (g0 : -9223372036854775808 ≤ g) (g1 : g ≤ 9223372036854775807) (h : ¬ (1 ≤ g ∧ g ≤ 1000 ∧ 1 ≤ satV s)) :
    Calls Try.prog 4 #[.int .i64 y, .int .i64 s, .int .i64 g] w fun e w' => e = .returned (.bool true) ∧ Below w.heap.size w w' := by
  have L1 := Lib.hid (fun (x : World) => likely_any y s g x g0 g1)
  have L2 := Lib.hid (fun (x : World) => rlikely16_any y s g x g0 g1)
  have NO : likB y s g = false := by
    unfold likB
    by_cases h1 : 1 ≤ g
    · by_cases h2 : g ≤ 1000
      · have h3 : ¬ 1 ≤ satV s := fun h3 => h ⟨h1, h2, h3⟩
        simp [h3]
      · simp [h2]
    · simp [h1]
  rw [NO] at L1 L2
  have by' := satV_bd y
  have OC := Lib.hid (fun (x : World) => bof_any (satV y) x by'.1 by'.2)
  obtain ⟨Y, hY⟩ : ∃ x, satV y = x := ⟨_, rfl⟩
  obtain ⟨S, hS⟩ : ∃ x, satV s = x := ⟨_, rfl⟩
  rw [hY] at OC by'
  rw [hS] at h
  have HY := Lib.hid hY
  have HS := Lib.hid hS
  have C3 : (1 ≤ g ∧ g ≤ 1000 ∧ decide (1 ≤ g) = true ∧ decide (g ≤ 1000) = true ∧ decide (1 ≤ S) = false) ∨ (decide (1 ≤ g) = true ∧ decide (g ≤ 1000) = false) ∨ decide (1 ≤ g) = false := by
    by_cases h1 : 1 ≤ g
    · by_cases h2 : g ≤ 1000
      · have h3 : ¬ 1 ≤ S := fun h3 => h ⟨h1, h2, h3⟩
        exact .inl ⟨h1, h2, by simpa using h1, by simpa using h2, by simpa using h3⟩
      · exact .inr (.inl ⟨by simpa using h1, by simpa using h2⟩)
    · exact .inr (.inr (by simpa using h1))
  clear hY hS h NO by'
  go_enter Try.func4, Try.ntmps4
  go_upto_region 3 with (go_at_call 5; (refine (awake18_any _).mono ?_); rintro e w1 ⟨rfl, hb1⟩)
  have A1 := Lib.hid (GtA.start w w1 hb1)
  clear hb1
  go_upto_region 4 with fail
  generalize w1.alloc (.cells #[.bool false] 46) = W2 at *
  have SA := Lib.hid (gt_sat w1.heap.size y A1.out)
  rw [HY.out] at SA
  refine wp_region_lit ?_
  refine wpList_val (v := ?_) rfl ?_ ?_
  rotate_left
  · (go_simp; (try (first | with_reducible rfl | (constructor <;> with_reducible rfl))))
  (try simp only [Act.put, nA, nB, nC])
  refine wpList_val (v := ?_) rfl ?_ ?_
  rotate_left
  · (go_simp; (try (first | with_reducible rfl | (constructor <;> with_reducible rfl))))
  (try simp only [Act.put, nA, nB, nC])
  refine wpList_step (fun K hK => ?_)
  go_simp
  (refine SA.out.mono ?_); rintro e w3 ⟨rfl, h3, rfl⟩; have A3 := Lib.hid (A1.out.set h3)
  (try dsimp only)
  (try simp only [Act.put, nA, nB, nC])
  refine hK _ _ ?_
  clear hK K
  refine wpList_step (fun K hK => ?_)
  go_simp
  (refine (OC.out _).mono ?_); rintro e w4 ⟨rfl, hb4⟩; have A4 := Lib.hid (A3.out.down hb4); clear hb4; have R4 := Lib.hid (gt_new A4.out (decide (Y < 0)) (d32 Y.natAbs))
  (try dsimp only)
  (try simp only [Act.put, nA, nB, nC])
  refine hK _ _ ?_
  clear hK K
  refine wpList_act (v := ?_) (w' := ?_) rfl ?_ ?_
  rotate_left 2
  · (go_simp; (try (first | with_reducible rfl | (constructor <;> with_reducible rfl))))
  (try simp only [Act.put, nA, nB, nC])
  refine wpList_done (w' := ?_) rfl ?_ ?_
  rotate_left
  · refine Eq.trans (run_store_rowc 50 (.tmp 8) (.tmp 19) (by rfl) w4.heap.size (by rfl) (by rfl) R4.out.1 (by rw [bg_size, bg_size]) (oneCell_bg _ _) (ibg.trans (by rw [bg_size]))) ?_; with_reducible rfl
  (try simp only [Act.put, nA, nB, nC])
  refine wpList_nil ?_
  have B5 := Lib.hid R4.out.2
  generalize (w4.alloc (.cells #[.bool false, .int .u64 0, .int .u64 0, .int .u64 0, .int .u64 0, .int .u64 0, .int .u64 0, .int .u64 0, .int .u64 0] 50)).setRow w4.heap.size (bg (decide (Y < 0)) (d32 Y.natAbs)) = W5 at *
  clear R4 A3 A4 A1 SA OC
  have SB := Lib.hid (gt_sat w1.heap.size s B5.out.a)
  rw [HS.out] at SB
  go_upto_region 6 with (go_at_call 10; (refine SB.out.mono ?_); rintro e w6 ⟨rfl, h6, rfl⟩)
  have B6 := Lib.hid (B5.out.set h6)
  generalize W5.setCell ⟨w1.heap.size, 0, none⟩ (.bool h6) = W6 at *
  clear SB B5
  rcases C3 with ⟨h1, h2, c1, c2, c3⟩ | ⟨c1, c2⟩ | c1
  all_goals
    go_wp2_with (first | (go_at_call 14; (refine (L1.out _).mono ?_); rintro e w7 ⟨rfl, hb7⟩) | (go_at_call 15; (refine (L2.out _).mono ?_); rintro e w8 ⟨rfl, hb8⟩))
    go_ret
    exact ⟨rfl, Below.after (Below.after B6.out.a.below hb7) hb8⟩
set_option maxHeartbeats 8000000 in
/-- Where both may be. -/
theorem gates_yes (y s g : Int) (w : World) (hg1 : 1 ≤ g) (hg2 : g ≤ 1000) (hs1 : 1 ≤ satV s) :
    Calls Try.prog 4 #[.int .i64 y, .int .i64 s, .int .i64 g] w fun e w' => e = .returned (.bool true) ∧ Below w.heap.size w w' := by
  have L1 := Lib.hid (fun (x : World) => likely_any y s g x (by omega) (by omega))
  have L2 := Lib.hid (fun (x : World) => rlikely16_any y s g x (by omega) (by omega))
  have by' := satV_bd y
  have bs' := satV_bd s
  have OC := Lib.hid (fun (x : World) => bof_any (satV y) x by'.1 by'.2)
  have OG := fun (x : World) => bof_any g x (by omega) (by omega)
  rw [show decide (g < 0) = false by simp; omega] at OG
  have OS := fun (x : World) => bof_any (satV s) x bs'.1 bs'.2
  rw [show decide (satV s < 0) = false by simp; omega] at OS
  obtain ⟨A, hA⟩ : ∃ x, (satV y).natAbs = x := ⟨_, rfl⟩
  obtain ⟨G, hG⟩ : ∃ x, g.natAbs = x := ⟨_, rfl⟩
  obtain ⟨V, hV⟩ : ∃ x, (satV s).natAbs = x := ⟨_, rfl⟩
  have pl := fun r (hr : (if A * A = G * G * (V * 65536) then (0 : Int) else if A * A < G * G * (V * 65536) then -1 else 1) = r) => gates_plain (y := y) (s := s) hg1 hg2 hs1 hA hG hV hr
  rw [hA] at OC
  rw [hG] at OG
  rw [hV] at OS
  have bA : A ≤ 1152921504606846976 := by omega
  have bG : G ≤ 1000 := by omega
  have bV : V ≤ 1152921504606846976 := by omega
  have nG : G ≠ 0 := by omega
  have nV : V ≠ 0 := by omega
  have b1 : A * A ≤ 1152921504606846976 * 1152921504606846976 := Nat.mul_le_mul bA bA
  have b2 : G * G ≤ 1000 * 1000 := Nat.mul_le_mul bG bG
  have b4 : G * G * (V * 65536) ≤ 1000000 * 75557863725914323419136 := Nat.mul_le_mul (by omega) (by omega)
  have n4 : G * G * (V * 65536) ≠ 0 := Nat.mul_ne_zero (Nat.mul_ne_zero nG nG) (by omega)
  have M1 := fun (x : World) => bmul_any (decide (satV y < 0)) (decide (satV y < 0)) A A x (by omega) (by omega)
  rw [show ((!(decide (satV y < 0) == decide (satV y < 0))) && !decide (A * A = 0)) = false by simp] at M1
  have M2 := fun (x : World) => bmul_any false false G G x (by omega) (by omega)
  rw [show ((!(false == false)) && !decide (G * G = 0)) = false from rfl] at M2
  have M3 := fun (x : World) => bmul_any false false V 65536 x (by omega) (by omega)
  rw [show ((!(false == false)) && !decide (V * 65536 = 0)) = false from rfl] at M3
  have M4 := fun (x : World) => bmul_any false false (G * G) (V * 65536) x (by omega) (by omega)
  rw [show ((!(false == false)) && !decide (G * G * (V * 65536) = 0)) = false from rfl] at M4
  have CM := fun (x : World) => bcmp_any (A * A) (G * G * (V * 65536)) x (by omega) (by omega) n4
  obtain ⟨r, hr⟩ : ∃ r : Int, (if A * A = G * G * (V * 65536) then 0 else if A * A < G * G * (V * 65536) then -1 else 1) = r := ⟨_, rfl⟩
  have PL := pl r hr
  rw [hr] at CM
  obtain ⟨P1, hP1⟩ : ∃ x, A * A = x := ⟨_, rfl⟩
  obtain ⟨P4, hP4⟩ : ∃ x, G * G * (V * 65536) = x := ⟨_, rfl⟩
  rw [hP1] at M1 CM
  rw [hP4] at M4 CM
  obtain ⟨P2, hP2⟩ : ∃ x, G * G = x := ⟨_, rfl⟩
  obtain ⟨P3, hP3⟩ : ∃ x, V * 65536 = x := ⟨_, rfl⟩
  rw [hP2] at M2 M4
  rw [hP3] at M3 M4
  obtain ⟨L, hL⟩ : ∃ x, likB y s g = x := ⟨_, rfl⟩
  rw [hL] at L1 L2 PL
  obtain ⟨Y, hY⟩ : ∃ x, satV y = x := ⟨_, rfl⟩
  obtain ⟨S, hS⟩ : ∃ x, satV s = x := ⟨_, rfl⟩
  rw [hY] at OC M1
  rw [hS] at OS hs1
  have HY := Lib.hid hY
  have HS0 := Lib.hid hS
  obtain ⟨m, hm⟩ : ∃ x, decide (Y < 0) = x := ⟨_, rfl⟩
  rw [hm] at OC M1
  have M1 := Lib.hid M1
  have M2 := Lib.hid M2
  have M3 := Lib.hid M3
  have M4 := Lib.hid M4
  have CM := Lib.hid CM
  have OG := Lib.hid OG
  have OS := Lib.hid OS
  have PW := Lib.hid bpow16_any
  have c1 : decide (1 ≤ g) = true := by simpa using hg1
  have c2 : decide (g ≤ 1000) = true := by simpa using hg2
  have c3 : decide (1 ≤ S) = true := by simpa using hs1
  clear hm hY hS hL hP1 hP2 hP3 hP4 hr pl n4 b1 b2 b4 nG nV bA bG bV hA hG hV by' bs'
  go_enter Try.func4, Try.ntmps4
  go_upto_region 3 with (go_at_call 5; (refine (awake18_any _).mono ?_); rintro e w1 ⟨rfl, hb1⟩)
  have A1 := Lib.hid (GtA.start w w1 hb1)
  clear hb1
  go_upto_region 4 with fail
  generalize w1.alloc (.cells #[.bool false] 46) = W2 at *
  have SA := Lib.hid (gt_sat w1.heap.size y A1.out)
  rw [HY.out] at SA
  refine wp_region_lit ?_
  refine wpList_val (v := ?_) rfl ?_ ?_
  rotate_left
  · (go_simp; (try (first | with_reducible rfl | (constructor <;> with_reducible rfl))))
  (try simp only [Act.put, nA, nB, nC])
  refine wpList_val (v := ?_) rfl ?_ ?_
  rotate_left
  · (go_simp; (try (first | with_reducible rfl | (constructor <;> with_reducible rfl))))
  (try simp only [Act.put, nA, nB, nC])
  refine wpList_step (fun K hK => ?_)
  go_simp
  (refine SA.out.mono ?_); rintro e w3 ⟨rfl, h3, rfl⟩; have A3 := Lib.hid (A1.out.set h3)
  (try dsimp only)
  (try simp only [Act.put, nA, nB, nC])
  refine hK _ _ ?_
  clear hK K
  refine wpList_step (fun K hK => ?_)
  go_simp
  (refine (OC.out _).mono ?_); rintro e w4 ⟨rfl, hb4⟩; have A4 := Lib.hid (A3.out.down hb4); clear hb4; have R4 := Lib.hid (gt_new A4.out m (d32 A))
  (try dsimp only)
  (try simp only [Act.put, nA, nB, nC])
  refine hK _ _ ?_
  clear hK K
  refine wpList_act (v := ?_) (w' := ?_) rfl ?_ ?_
  rotate_left 2
  · (go_simp; (try (first | with_reducible rfl | (constructor <;> with_reducible rfl))))
  (try simp only [Act.put, nA, nB, nC])
  refine wpList_done (w' := ?_) rfl ?_ ?_
  rotate_left
  · refine Eq.trans (run_store_rowc 50 (.tmp 8) (.tmp 19) (by rfl) w4.heap.size (by rfl) (by rfl) R4.out.1 (by rw [bg_size, bg_size]) (oneCell_bg _ _) (ibg.trans (by rw [bg_size]))) ?_; with_reducible rfl
  (try simp only [Act.put, nA, nB, nC])
  refine wpList_nil ?_
  have B5 := Lib.hid R4.out.2
  generalize (w4.alloc (.cells #[.bool false, .int .u64 0, .int .u64 0, .int .u64 0, .int .u64 0, .int .u64 0, .int .u64 0, .int .u64 0, .int .u64 0] 50)).setRow w4.heap.size (bg m (d32 A)) = W5 at *
  clear R4 A3 A4 A1 SA OC
  have SB := Lib.hid (gt_sat w1.heap.size s B5.out.a)
  rw [HS0.out] at SB
  go_upto_region 6 with (go_at_call 10; (refine SB.out.mono ?_); rintro e w6 ⟨rfl, h6, rfl⟩)
  have B6 := Lib.hid (B5.out.set h6)
  generalize W5.setCell ⟨w1.heap.size, 0, none⟩ (.bool h6) = W6 at *
  clear SB B5
  go_upto_region 8 with fail
  refine wp_region_lit ?_
  refine wpList_val (v := ?_) rfl ?_ ?_
  rotate_left
  · (go_simp; (try (first | with_reducible rfl | (constructor <;> with_reducible rfl))))
  (try simp only [Act.put, nA, nB, nC])
  refine wpList_step (fun K hK => ?_)
  go_simp
  (refine (OG.out _).mono ?_); rintro e w7 ⟨rfl, hb7⟩; have B7 := Lib.hid (B6.out.down hb7); clear hb7; have R7 := Lib.hid (gt_new2 B7.out (d32 G))
  (try dsimp only)
  (try simp only [Act.put, nA, nB, nC])
  refine hK _ _ ?_
  clear hK K
  refine wpList_act (v := ?_) (w' := ?_) rfl ?_ ?_
  rotate_left 2
  · (go_simp; (try (first | with_reducible rfl | (constructor <;> with_reducible rfl))))
  (try simp only [Act.put, nA, nB, nC])
  refine wpList_done (w' := ?_) rfl ?_ ?_
  rotate_left
  · refine Eq.trans (run_store_rowc 50 (.tmp 11) (.tmp 35) (by rfl) w7.heap.size (by rfl) (by rfl) R7.out.1 (by rw [bg_size, bg_size]) (oneCell_bg _ _) (ibg.trans (by rw [bg_size]))) ?_; with_reducible rfl
  (try simp only [Act.put, nA, nB, nC])
  refine wpList_nil ?_
  have C8 := Lib.hid R7.out.2
  generalize (w7.alloc (.cells #[.bool false, .int .u64 0, .int .u64 0, .int .u64 0, .int .u64 0, .int .u64 0, .int .u64 0, .int .u64 0, .int .u64 0] 50)).setRow w7.heap.size (bg false (d32 G)) = W8 at *
  clear R7 B7 B6
  have HS := Lib.hid (C8.out.down (Below.drew (Below.refl _ _)))
  go_upto_region 9 with fail
  refine wp_region_M (fun w' => Row w' w4.heap.size 50 (bg m (d32 A)) ∧ Row w' w7.heap.size 50 (bg false (d32 G))) 13 (by kernel_rfl) ?_ (fun hHeld => ?_)
  · exact ⟨HS.out.b.r, HS.out.s⟩
  refine wpAnyM_take 0 (v := ?_) rfl (by kernel_rfl) (fun _ _ _ h => h) (Or.inl ⟨by rfl, ?_⟩) (by assumption) ?_
  rotate_left
  · (intro wx hSw; refine Eq.trans (run_load_row 50 (.tmp 8) (by rfl) w4.heap.size (by rfl) _ _ _ _ hSw.1 Try.underlying50 rfl (ibg.trans (by rw [bg_size]))) ?_; with_reducible rfl)
  (try simp only [Act.put, nA, nB, nC])
  refine wpAnyM_take 1 (v := ?_) rfl (by kernel_rfl) (fun _ _ _ h => h) (Or.inl ⟨by rfl, ?_⟩) (by assumption) ?_
  rotate_left
  · (intro wx hSw; refine Eq.trans (run_load_row 50 (.tmp 8) (by rfl) w4.heap.size (by rfl) _ _ _ _ hSw.1 Try.underlying50 rfl (ibg.trans (by rw [bg_size]))) ?_; with_reducible rfl)
  (try simp only [Act.put, nA, nB, nC])
  refine wpAnyM_take 3 (v := ?_) rfl (by kernel_rfl) (fun _ _ _ h => h) (Or.inl ⟨by rfl, ?_⟩) (by assumption) ?_
  rotate_left
  · (intro wx hSw; refine Eq.trans (run_load_row 50 (.tmp 11) (by rfl) w7.heap.size (by rfl) _ _ _ _ hSw.2 Try.underlying50 rfl (ibg.trans (by rw [bg_size]))) ?_; with_reducible rfl)
  (try simp only [Act.put, nA, nB, nC])
  refine wpAnyM_take 4 (v := ?_) rfl (by kernel_rfl) (fun _ _ _ h => h) (Or.inl ⟨by rfl, ?_⟩) (by assumption) ?_
  rotate_left
  · (intro wx hSw; refine Eq.trans (run_load_row 50 (.tmp 11) (by rfl) w7.heap.size (by rfl) _ _ _ _ hSw.2 Try.underlying50 rfl (ibg.trans (by rw [bg_size]))) ?_; with_reducible rfl)
  (try simp only [Act.put, nA, nB, nC])
  refine wpAnyM_take 6 (v := ?_) rfl (by kernel_rfl) (fun _ _ _ h => h) (Or.inl ⟨by rfl, ?_⟩) (by assumption) ?_
  rotate_left
  · (intro wx hSw; (try dsimp only at hSw); go_simp; (try with_reducible rfl))
  (try simp only [Act.put, nA, nB, nC])
  refine wpAnyM_oneS 2 rfl (by kernel_rfl) (fun K hK => ?_)
  go_simp
  (refine (M1.out _).mono ?_); rintro e w9 ⟨rfl, hb9⟩; have HS2 := Lib.hid (HS.out.down hb9); clear HS hb9; have HS := HS2; clear HS2
  (try dsimp only)
  (try simp only [Act.put, nA, nB, nC])
  clear hHeld
  refine hK.out _ _ ?_ (fun hHeld => ?_)
  · exact ⟨HS.out.b.r, HS.out.s⟩
  clear hK K
  (try simp only [Act.put, nA, nB, nC])
  refine wpAnyM_oneS 5 rfl (by kernel_rfl) (fun K hK => ?_)
  go_simp
  (refine (M2.out _).mono ?_); rintro e w10 ⟨rfl, hb9⟩; have HS2 := Lib.hid (HS.out.down hb9); clear HS hb9; have HS := HS2; clear HS2
  (try dsimp only)
  (try simp only [Act.put, nA, nB, nC])
  clear hHeld
  refine hK.out _ _ ?_ (fun hHeld => ?_)
  · exact ⟨HS.out.b.r, HS.out.s⟩
  clear hK K
  (try simp only [Act.put, nA, nB, nC])
  refine wpAnyM_oneS 7 rfl (by kernel_rfl) (fun K hK => ?_)
  go_simp
  (refine (OS.out _).mono ?_); rintro e w11 ⟨rfl, hb9⟩; have HS2 := Lib.hid (HS.out.down hb9); clear HS hb9; have HS := HS2; clear HS2
  (try dsimp only)
  (try simp only [Act.put, nA, nB, nC])
  clear hHeld
  refine hK.out _ _ ?_ (fun hHeld => ?_)
  · exact ⟨HS.out.b.r, HS.out.s⟩
  clear hK K
  (try simp only [Act.put, nA, nB, nC])
  refine wpAnyM_oneS 8 rfl (by kernel_rfl) (fun K hK => ?_)
  go_simp
  (refine (PW.out _).mono ?_); rintro e w12 ⟨rfl, hb9⟩; have HS2 := Lib.hid (HS.out.down hb9); clear HS hb9; have HS := HS2; clear HS2
  (try dsimp only)
  (try simp only [Act.put, nA, nB, nC])
  clear hHeld
  refine hK.out _ _ ?_ (fun hHeld => ?_)
  · exact ⟨HS.out.b.r, HS.out.s⟩
  clear hK K
  (try simp only [Act.put, nA, nB, nC])
  refine wpAnyM_oneS 9 rfl (by kernel_rfl) (fun K hK => ?_)
  go_simp
  (refine (M3.out _).mono ?_); rintro e w13 ⟨rfl, hb9⟩; have HS2 := Lib.hid (HS.out.down hb9); clear HS hb9; have HS := HS2; clear HS2
  (try dsimp only)
  (try simp only [Act.put, nA, nB, nC])
  clear hHeld
  refine hK.out _ _ ?_ (fun hHeld => ?_)
  · exact ⟨HS.out.b.r, HS.out.s⟩
  clear hK K
  (try simp only [Act.put, nA, nB, nC])
  refine wpAnyM_oneS 10 rfl (by kernel_rfl) (fun K hK => ?_)
  go_simp
  (refine (M4.out _).mono ?_); rintro e w14 ⟨rfl, hb9⟩; have HS2 := Lib.hid (HS.out.down hb9); clear HS hb9; have HS := HS2; clear HS2
  (try dsimp only)
  (try simp only [Act.put, nA, nB, nC])
  clear hHeld
  refine hK.out _ _ ?_ (fun hHeld => ?_)
  · exact ⟨HS.out.b.r, HS.out.s⟩
  clear hK K
  (try simp only [Act.put, nA, nB, nC])
  refine wpAnyM_oneS 11 rfl (by kernel_rfl) (fun K hK => ?_)
  go_simp
  (refine (CM.out _).mono ?_); rintro e w15 ⟨rfl, hb9⟩; have HS2 := Lib.hid (HS.out.down hb9); clear HS hb9; have HS := HS2; clear HS2
  (try dsimp only)
  (try simp only [Act.put, nA, nB, nC])
  clear hHeld
  refine hK.out _ _ ?_ (fun hHeld => ?_)
  · exact ⟨HS.out.b.r, HS.out.s⟩
  clear hK K
  (try simp only [Act.put, nA, nB, nC])
  refine wpAnyM_take 12 (v := ?_) rfl (by kernel_rfl) (fun _ _ _ h => h) (Or.inl ⟨by rfl, ?_⟩) (by assumption) ?_
  rotate_left
  · (intro wx hSw; (try dsimp only at hSw); go_simp; (try with_reducible rfl))
  (try simp only [Act.put, nA, nB, nC])
  refine wpAnyM_one 13 rfl (by kernel_rfl) (fun K hK => ?_)
  go_simp
  refine hK.out _ _ (.inl (by kernel_rfl)) (fun _ => ?_)
  clear hK K
  (try simp only [Act.put, nA, nB, nC])
  refine wpAnyM_done (by kernel_rfl) ?_ _
  cases L
  all_goals
    go_wp2_with (first | (go_at_call 14; (refine (L1.out _).mono ?_); rintro e w16 ⟨rfl, hb7⟩) | (go_at_call 15; (refine (L2.out _).mono ?_); rintro e w17 ⟨rfl, hb8⟩))
    go_ret
    exact ⟨rfl, Below.after (Below.after HS.out.b.a.below hb7) hb8⟩
theorem gates_walk (y s g : Int) (w : World) (g0 : -9223372036854775808 ≤ g) (g1 : g ≤ 9223372036854775807) :
    Calls Try.prog 4 #[.int .i64 y, .int .i64 s, .int .i64 g] w fun e w' => e = .returned (.bool true) ∧ Below w.heap.size w w' := by
  by_cases h : 1 ≤ g ∧ g ≤ 1000 ∧ 1 ≤ satV s
  · exact gates_yes y s g w h.1 h.2.1 h.2.2
  · exact gates_no y s g w g0 g1 h
end Go.Proofs.Ytpbgglkopfjagaa
/- The join of a law: arguments that read before the call read behind it, if nothing that was there has turned. -/
namespace Go.Proofs.Ytpbgglkopfjagaa
open Go.ChangeShapes Go.WideShapes Go.ChangeAt Go.RowKit
theorem trodAll_stays {H : Type} {enc : TypeId × Value → H} {P : Program} (hl : laidOutB P = true) {W W' : World} (hb : Below W.heap.size W W') {sp : Nat → Bool} : ∀ {ts : List TypeId} {vs : List Value} {ds : List (DataW H)} {p : List MemPlace},
    (ts.all fun t => P.readableRec t && decide (t < P.types.size)) = true → DataW.TrodAll enc P W 0 (fun _ => true) true ts vs ds p → (∀ x ∈ p, x.block < W.heap.size) → (∀ x ∈ p, sp x.block = true) → DataW.TrodAll enc P W' 0 sp true ts vs ds p
  | [], [], [], _, _, h, _, _ => h
  | t :: ts, v :: vs, d :: ds, p, ht, h, hlt, hsp => by
    obtain ⟨q, r, h1, h2, rfl⟩ := h
    rw [List.all_cons, Bool.and_eq_true, Bool.and_eq_true, decide_eq_true_eq] at ht
    exact ⟨q, r, WideElems.Trod_stays hl ht.1.1 ht.1.2 h1 (fun x hx => hb.same (hlt x (List.mem_append_left _ hx))) (fun x hx => hsp x (List.mem_append_left _ hx)),
      trodAll_stays hl hb ht.2 h2 (fun x hx => hlt x (List.mem_append_right _ hx)) (fun x hx => hsp x (List.mem_append_right _ hx)), rfl⟩
  | [], _ :: _, _, _, _, h, _, _ => by cases ‹List (DataW H)› <;> exact h.elim
  | [], [], _ :: _, _, _, h, _, _ => h.elim
  | _ :: _, [], _, _, _, h, _, _ => by cases ‹List (DataW H)› <;> exact h.elim
  | _ :: _, _ :: _, [], _, _, h, _, _ => h.elim
/-- What a law owes behind the call: it answers true, and nothing that was there has turned. -/
theorem law_post {H : Type} {enc : TypeId × Value → H} {P : Program} {f : Func} {s : ChangeSpec} {apart fresh handsOn again : Bool} {W W' : World} {args : Array Value} {ds gs : List (DataW H)} {before : List MemPlace} {tb : TypeId}
    (hW : DataW.Whole enc P f.params.toList s.vars apart W args.toList ds gs before) (hv : s.vars = []) (hfn : s.fn H ds = { results := [.lit (.bool true)], args := ds })
    (hu : P.underlying tb = some .bool) (hr : f.resultTypes = #[tb]) (hl : laidOutB P = true) (hts : (f.params.toList.all fun t => P.readableRec t && decide (t < P.types.size)) = true) (hb : Below W.heap.size W W') :
    s.post enc P f apart fresh handsOn again W args (.bool true) W' := by
  have hlt : ∀ x ∈ before, x.block < W.heap.size := fun x hx => hW.lt x hx
  have hW0 := hW
  obtain ⟨p, q, hA, hV, rfl, hfz, hnd⟩ := hW
  rw [hv] at hV
  obtain ⟨rfl, rfl⟩ := trodVars_none hV
  rw [List.append_nil] at hlt
  have hargs : ∀ sp : Nat → Bool, (∀ x ∈ p, sp x.block = true) → DataW.TrodAll enc P W' 0 sp true f.params.toList args.toList ds p := fun sp hsp => trodAll_stays hl hb hts hA hlt hsp
  have hvars : ∀ sp : Nat → Bool, DataW.TrodVars enc P W' sp s.vars ([] : List (DataW H)) [] := fun sp => by rw [hv]; exact rfl
  have hres : ∀ (b : Nat) (sp : Nat → Bool) (hd : Bool), DataW.TrodAll enc P W' b sp hd f.resultTypes.toList ((Value.bool true).resultList f.resultTypes.size) [.lit (.bool true)] [] := fun b sp hd => by
    rw [hr]; exact trodAll_mk1 (shut_bool hu _)
  have hold : ∀ x ∈ p, (fun b => decide (b < W.heap.size)) x.block = true := fun x hx => by simpa using hlt x hx
  have hfn' : s.fn H (ds ++ []) = { results := [.lit (.bool true)], args := ds } := by rw [List.append_nil]; exact hfn
  refine ⟨ds, [], p ++ [], [], p, [], hW0, ?_, ?_, ?_, World.keptBut_mono (fun x hx => ⟨hx, ?_⟩) (hb.frame (· ∈ p ++ [])), fun _ => ?_⟩
  · rw [hfn']; exact hres _ _ _
  · rw [hfn']; exact hargs _ hold
  · rw [hfn']; exact hvars _
  · rw [List.append_nil] at hx; exact Or.inr (.inl hx)
  · refine ⟨ok_one hr rfl (okWide_bool_mk hu _), _, _, ([] ++ p) ++ [], ⟨[] ++ p, [], trodAll_append (hargs _ (fun _ _ => rfl)) (hres _ _ _), hvars _, rfl, ?_, ?_⟩, ?_⟩
    · intro b off hx
      have hin : MemPlace.cell b off ∈ p := by simpa using hx
      rw [hb.frozen (p := ⟨b, off, none⟩) (hlt _ hin)]
      exact hfz b off (by simpa using hin)
    · intro ha
      simpa using hnd ha
    · intro x hx _
      simpa using hx
section
variable {H : Type} {enc : TypeId × Value → H} {w : World} {base : Nat} {spare : Nat → Bool} {held : Bool}
theorem own_knob : ownKnob Try.prog.godebug = none := by kernel_rfl
theorem laid_out : laidOutB Try.prog = true := by kernel_rfl
end
end Go.Proofs.Ytpbgglkopfjagaa
