/- The walk of ResetTells. -/
import Derived.Test.YtgfklheepkgedaaTwice26W
import Derived.Test.YtgfklheepkgedaaTlP
import Derived.Test.YtgfklheepkgedaaS01
import Derived.BigQuiet
namespace Go.Proofs.Ytgfklheepkgedaa
open Go.RowKit
set_option maxRecDepth 100000
/-- The law's blocks, the estimate behind, the factors behind, what is told. -/
structure TlR (bc ab qb db : Nat) (h : Bool) (K P T A Q D : Nat → Int) (w wr : World) : Prop where
  l : LwR bc h K P T w wr
  a : Blk wr ab 27 24 A
  q : Blk wr qb 30 300 Q
  d : Blk wr db 38 11 D
  lt : bc < ab ∧ ab < qb ∧ qb < db
section
variable {bc ab qb db : Nat} {h h' : Bool} {K P T A Q D : Nat → Int} {w wr w' : World}
theorem TlR.down (s : TlR bc ab qb db h K P T A Q D w wr) (u : Below wr.heap.size wr w') : TlR bc ab qb db h K P T A Q D w w' := ⟨s.l.down u, s.a.below u, s.q.below u, s.d.below u, s.lt⟩
theorem TlR.upd' (s : TlR bc ab qb db h K P T A Q D w wr) (u : Upd ⟨bc, 0, none⟩ h' wr w') : TlR bc ab qb db h' K P T A Q D w w' := by
  have := s.lt
  exact ⟨s.l.upd' u, s.a.upd u (by simp only; omega), s.q.upd u (by simp only; omega), s.d.upd u (by simp only; omega), s.lt⟩
theorem tl_three (s : TlR bc ab qb db h K P T A Q D w wr) (F G E : Nat → Int) :
    Blk (wr.setRow ab (arrv 24 F)) qb 30 300 Q ∧ Blk ((wr.setRow ab (arrv 24 F)).setRow qb (arrv 300 G)) db 38 11 D ∧
    TlR bc ab qb db h K P T F G E w (((wr.setRow ab (arrv 24 F)).setRow qb (arrv 300 G)).setRow db (arrv 11 E)) := by
  have := s.lt
  have a1 := s.q.setRow_other (k := ab) (arrv 24 F) (by omega)
  have a2 := (s.d.setRow_other (k := ab) (arrv 24 F) (by omega)).setRow_other (k := qb) (arrv 300 G) (by omega)
  refine ⟨a1, a2, ((s.l.far (by omega) _).far (by omega) _).far (by omega) _, ((s.a.setRow F).setRow_other _ (by omega)).setRow_other _ (by omega), (a1.setRow G).setRow_other _ (by omega), a2.setRow E, s.lt⟩
theorem tl_start (s : LwR bc h K P T w wr) :
    Blk (wr.alloc (.cells #[.int .i64 0, .int .i64 0, .int .i64 0, .int .i64 0, .int .i64 0, .int .i64 0, .int .i64 0, .int .i64 0, .int .i64 0, .int .i64 0, .int .i64 0, .int .i64 0, .int .i64 0, .int .i64 0, .int .i64 0, .int .i64 0, .int .i64 0, .int .i64 0, .int .i64 0, .int .i64 0, .int .i64 0, .int .i64 0, .int .i64 0, .int .i64 0] 27)) wr.heap.size 27 24 (fun _ => 0) ∧
    LwR bc h K P T w ((wr.alloc (.cells #[.int .i64 0, .int .i64 0, .int .i64 0, .int .i64 0, .int .i64 0, .int .i64 0, .int .i64 0, .int .i64 0, .int .i64 0, .int .i64 0, .int .i64 0, .int .i64 0, .int .i64 0, .int .i64 0, .int .i64 0, .int .i64 0, .int .i64 0, .int .i64 0, .int .i64 0, .int .i64 0, .int .i64 0, .int .i64 0, .int .i64 0, .int .i64 0] 27)).setRow wr.heap.size (arrv 24 K)) ∧ Blk ((wr.alloc (.cells #[.int .i64 0, .int .i64 0, .int .i64 0, .int .i64 0, .int .i64 0, .int .i64 0, .int .i64 0, .int .i64 0, .int .i64 0, .int .i64 0, .int .i64 0, .int .i64 0, .int .i64 0, .int .i64 0, .int .i64 0, .int .i64 0, .int .i64 0, .int .i64 0, .int .i64 0, .int .i64 0, .int .i64 0, .int .i64 0, .int .i64 0, .int .i64 0] 27)).setRow wr.heap.size (arrv 24 K)) wr.heap.size 27 24 K ∧ bc < wr.heap.size := by
  have b := tw_new s _ rfl
  exact ⟨b.1, s.down (below_row ((Below.refl _ _).alloc (Nat.le_refl _) _) (Nat.le_refl _) _), b.1.setRow K, b.2⟩
theorem tl_mid (s : LwR bc h K P T w wr ∧ Blk wr ab 27 24 A ∧ bc < ab) :
    Blk (wr.alloc (.cells Try.zeroCells30 30)) wr.heap.size 30 300 (fun _ => 0) ∧
    LwR bc h K P T w ((wr.alloc (.cells Try.zeroCells30 30)).setRow wr.heap.size (arrv 300 P)) ∧ Blk ((wr.alloc (.cells Try.zeroCells30 30)).setRow wr.heap.size (arrv 300 P)) ab 27 24 A ∧
    Blk ((wr.alloc (.cells Try.zeroCells30 30)).setRow wr.heap.size (arrv 300 P)) wr.heap.size 30 300 P ∧ bc < ab ∧ ab < wr.heap.size := by
  have b : Blk (wr.alloc (.cells Try.zeroCells30 30)) wr.heap.size 30 300 (fun _ => 0) := by rw [zcov]; exact Blk.new _ _ _ _
  have bl : Below wr.heap.size wr ((wr.alloc (.cells Try.zeroCells30 30)).setRow wr.heap.size (arrv 300 P)) := below_row ((Below.refl _ _).alloc (Nat.le_refl _) _) (Nat.le_refl _) _
  exact ⟨b, s.1.down bl, s.2.1.below bl, b.setRow P, s.2.2, s.2.1.lt⟩
theorem tl_end (s : LwR bc h K P T w wr ∧ Blk wr ab 27 24 A ∧ Blk wr qb 30 300 Q ∧ bc < ab ∧ ab < qb) :
    Blk (wr.alloc (.cells #[.int .i64 0, .int .i64 0, .int .i64 0, .int .i64 0, .int .i64 0, .int .i64 0, .int .i64 0, .int .i64 0, .int .i64 0, .int .i64 0, .int .i64 0] 38)) wr.heap.size 38 11 (fun _ => 0) ∧ TlR bc ab qb wr.heap.size h K P T A Q (fun _ => 0) w ((wr.alloc (.cells #[.int .i64 0, .int .i64 0, .int .i64 0, .int .i64 0, .int .i64 0, .int .i64 0, .int .i64 0, .int .i64 0, .int .i64 0, .int .i64 0, .int .i64 0] 38)).setRow wr.heap.size (arrv 11 (fun _ => 0))) := by
  have b : Blk (wr.alloc (.cells #[.int .i64 0, .int .i64 0, .int .i64 0, .int .i64 0, .int .i64 0, .int .i64 0, .int .i64 0, .int .i64 0, .int .i64 0, .int .i64 0, .int .i64 0] 38)) wr.heap.size 38 11 (fun _ => 0) := by rw [ztd]; exact Blk.new _ _ _ _
  have bl : Below wr.heap.size wr ((wr.alloc (.cells #[.int .i64 0, .int .i64 0, .int .i64 0, .int .i64 0, .int .i64 0, .int .i64 0, .int .i64 0, .int .i64 0, .int .i64 0, .int .i64 0, .int .i64 0] 38)).setRow wr.heap.size (arrv 11 (fun _ => 0))) := below_row ((Below.refl _ _).alloc (Nat.le_refl _) _) (Nat.le_refl _) _
  exact ⟨b, s.1.down bl, s.2.1.below bl, s.2.2.1.below bl, b.setRow _, s.2.2.2.1, s.2.2.2.2, s.2.2.1.lt⟩
end
set_option maxHeartbeats 32000000 in
theorem tells26_walk (S P T : Nat → Int) (v u : Int) (w : World) :
    Calls Try.prog 4 #[.agg (arrv 24 S), .agg (arrv 300 P), .agg (arrv 3 T), .int .i64 v, .int .i64 u] w fun e w' => e = .returned (.bool true) ∧ Below w.heap.size w w' := by
  have GS := Lib.hid (fun (w1 : World) hb => lw_start S P T w w1 hb)
  go_enter Try.func4, Try.ntmps4
  go_upto_region 3 with (go_at_call 6; (refine (awake26_any _).mono ?_); rintro e w1 ⟨rfl, hb1⟩)
  have S0 := Lib.hid (GS.out w1 hb1)
  clear hb1 GS
  go_upto_region 4 with fail
  generalize w1.alloc (.cells #[.bool false] 25) = W0 at *
  obtain ⟨bc, hbc⟩ : ∃ x, w1.heap.size = x := ⟨_, rfl⟩
  rw [hbc] at S0 ⊢
  clear hbc
  have P0 := S0.out.s
  refine wp_region_lit ?_
  refine wpList_val (v := ?_) rfl ?_ ?_
  rotate_left
  · (go_simp; (try (first | with_reducible rfl | (constructor <;> with_reducible rfl))))
  (try simp only [Act.put, nA, nB, nC])
  refine wpList_val (v := ?_) rfl ?_ ?_
  rotate_left
  · refine Eq.trans (run_load_row 27 (.tmp 5) (by rfl) (w.heap.size) (by rfl) _ _ _ _ (P0) Try.underlying27 rfl (ist.trans (by rw [arrv_size]))) ?_; with_reducible rfl
  (try simp only [Act.put, nA, nB, nC])
  refine wpList_step (fun K hK => ?_)
  go_simp
  clear P0; (refine (keep_any ⟨bc, 0, none⟩ false S _ S0.out.fl.cell S0.out.fl.free).mono ?_); rintro e w2 ⟨rfl, hu⟩; have S1 := Lib.hid (S0.out.upd' hu); clear hu S0; have P1 := S1.out.s
  (try dsimp only)
  (try simp only [Act.put, nA, nB, nC])
  refine hK _ _ ?_
  clear hK K
  refine wpList_done (w' := ?_) rfl ?_ ?_
  rotate_left
  · refine Eq.trans (run_store_row 27 (.tmp 5) (.tmp 25) (by rfl) (w.heap.size) (by rfl) (by rfl) (P1) (ist.trans rfl)) ?_; with_reducible rfl
  (try simp only [Act.put, nA, nB, nC])
  refine wpList_nil ?_
  have S2 := Lib.hid (S1.out.rowS (keepF S))
  generalize w2.setRow w.heap.size (arrv 24 (keepF S)) = W2 at *
  clear P1 S1
  have HK := Lib.hid (keep_good S)
  obtain ⟨h0, hh0⟩ : ∃ x, (false || keepH S) = x := ⟨_, rfl⟩
  obtain ⟨KE, hKE⟩ : ∃ x, keepF S = x := ⟨_, rfl⟩
  rw [hKE] at S2 HK
  rw [hh0] at S2
  clear hKE hh0
  go_upto_region 5 with fail
  have P0 := S2.out.s
  have N := Lib.hid (tl_start S2.out)
  refine wp_region_lit ?_
  refine wpList_val (v := ?_) rfl ?_ ?_
  rotate_left
  · refine Eq.trans (run_load_row 27 (.tmp 5) (by rfl) (w.heap.size) (by rfl) _ _ _ _ (P0) Try.underlying27 rfl (ist.trans (by rw [arrv_size]))) ?_; with_reducible rfl
  (try simp only [Act.put, nA, nB, nC])
  refine wpList_act (v := ?_) (w' := ?_) rfl ?_ ?_
  rotate_left 2
  · (go_simp; (try (first | with_reducible rfl | (constructor <;> with_reducible rfl))))
  (try simp only [Act.put, nA, nB, nC])
  refine wpList_done (w' := ?_) rfl ?_ ?_
  rotate_left
  · (refine Eq.trans (run_store_row 27 (.tmp 12) (.tmp 26) (by rfl) (W2.heap.size) (by rfl) (by rfl) N.out.1 (ist.trans rfl)) ?_; with_reducible rfl)
  (try simp only [Act.put, nA, nB, nC])
  refine wpList_nil ?_
  have S3 := Lib.hid N.out.2
  generalize (W2.alloc (.cells #[.int .i64 0, .int .i64 0, .int .i64 0, .int .i64 0, .int .i64 0, .int .i64 0, .int .i64 0, .int .i64 0, .int .i64 0, .int .i64 0, .int .i64 0, .int .i64 0, .int .i64 0, .int .i64 0, .int .i64 0, .int .i64 0, .int .i64 0, .int .i64 0, .int .i64 0, .int .i64 0, .int .i64 0, .int .i64 0, .int .i64 0, .int .i64 0] 27)).setRow W2.heap.size (arrv 24 KE) = W3 at *
  obtain ⟨ab, hab⟩ : ∃ x, W2.heap.size = x := ⟨_, rfl⟩
  rw [hab] at S3 ⊢
  clear hab N P0 S2
  go_upto_region 6 with fail
  have P0 := S3.out.1.p
  have N := Lib.hid (tl_mid S3.out)
  refine wp_region_lit ?_
  refine wpList_val (v := ?_) rfl ?_ ?_
  rotate_left
  · refine Eq.trans (run_load_row 30 (.tmp 6) (by rfl) (w.heap.size + 1) (by rfl) _ _ _ _ (P0) Try.underlying30 rfl (icov.trans (by rw [arrv_size]))) ?_; with_reducible rfl
  (try simp only [Act.put, nA, nB, nC])
  refine wpList_act (v := ?_) (w' := ?_) rfl ?_ ?_
  rotate_left 2
  · (go_simp; (try (first | with_reducible rfl | (constructor <;> with_reducible rfl))))
  (try simp only [Act.put, nA, nB, nC])
  refine wpList_done (w' := ?_) rfl ?_ ?_
  rotate_left
  · (refine Eq.trans (run_store_row 30 (.tmp 13) (.tmp 27) (by rfl) (W3.heap.size) (by rfl) (by rfl) N.out.1 (icov.trans rfl)) ?_; with_reducible rfl)
  (try simp only [Act.put, nA, nB, nC])
  refine wpList_nil ?_
  have S9 := Lib.hid N.out.2
  generalize (W3.alloc (.cells Try.zeroCells30 30)).setRow W3.heap.size (arrv 300 P) = W5 at *
  obtain ⟨qb, hqb⟩ : ∃ x, W3.heap.size = x := ⟨_, rfl⟩
  rw [hqb] at S9 ⊢
  clear hqb N P0 S3
  go_upto_region 7 with fail
  have N := Lib.hid (tl_end S9.out)
  refine wp_region_lit ?_
  refine wpList_val (v := ?_) rfl ?_ ?_
  rotate_left
  · (refine Eq.trans (run_build_td0 (by rfl)) ?_; with_reducible rfl)
  (try simp only [Act.put, nA, nB, nC])
  refine wpList_act (v := ?_) (w' := ?_) rfl ?_ ?_
  rotate_left 2
  · (go_simp; (try (first | with_reducible rfl | (constructor <;> with_reducible rfl))))
  (try simp only [Act.put, nA, nB, nC])
  refine wpList_done (w' := ?_) rfl ?_ ?_
  rotate_left
  · (refine Eq.trans (run_store_row 38 (.tmp 14) (.tmp 28) (by rfl) (W5.heap.size) (by rfl) (by rfl) N.out.1 (itd.trans rfl)) ?_; with_reducible rfl)
  (try simp only [Act.put, nA, nB, nC])
  refine wpList_nil ?_
  have S4 := Lib.hid N.out.2
  generalize (W5.alloc (.cells #[.int .i64 0, .int .i64 0, .int .i64 0, .int .i64 0, .int .i64 0, .int .i64 0, .int .i64 0, .int .i64 0, .int .i64 0, .int .i64 0, .int .i64 0] 38)).setRow W5.heap.size (arrv 11 (fun _ => 0)) = W6 at *
  obtain ⟨db, hdb⟩ : ∃ x, W5.heap.size = x := ⟨_, rfl⟩
  rw [hdb] at S4 ⊢
  clear hdb N S9
  obtain ⟨t0, ht0⟩ : ∃ x, T 0 = x := ⟨_, rfl⟩
  obtain ⟨t1, ht1⟩ : ∃ x, T 1 = x := ⟨_, rfl⟩
  obtain ⟨t2, ht2⟩ : ∃ x, T 2 = x := ⟨_, rfl⟩
  go_upto_region 12 with fail
  have hb3 := and3 u
  obtain ⟨m, hm⟩ : ∃ m, Go.bits Go.BinOp.and Go.IntKind.i64 u 3 = m := ⟨_, rfl⟩
  rw [hm] at hb3 ⊢
  have HM := Lib.hid hm
  have HB := Lib.hid hb3
  clear hm hb3
  by_cases e0 : m = 0
  · subst e0
    have TL := tl_jump HK.out (fr := 4) (n := 3) T 2 (by decide) (by decide)
    obtain ⟨A1, hA1⟩ : ∃ x, jpS KE 4 T 3 = x := ⟨_, rfl⟩
    obtain ⟨Q1, hQ1⟩ : ∃ x, stepF P (rtF 4 3) (rtQ 4 (fun _ => v) 3) = x := ⟨_, rfl⟩
    obtain ⟨h1, hh1⟩ : ∃ x, (jpH h0 KE 4 T 3 || orB (rtB 4 (fun _ => v)) 3 || stepH P (rtF 4 3) (rtQ 4 (fun _ => v) 3)) = x := ⟨_, rfl⟩
    obtain ⟨D1, hD1⟩ : ∃ x, midF (tdF dl0 2) 4 3 (mvD (keepF KE) 4 T) = x := ⟨_, rfl⟩
    have C1 := fun (x : World) (k : x.cell? ⟨bc, 0, none⟩ = some (.bool h0)) (f : x.frozen? ⟨bc, 0, none⟩ = false) => vel_any ⟨bc, 0, none⟩ h0 KE P T v x k f
    rw [hA1, hQ1, hh1, hD1] at C1
    have GQ := Lib.hid (show (!condH Q1) = true by rw [← hQ1, step_good]; rfl)
    have TN := Lib.hid (tl_turn (keepF KE) T 2 (by decide) hD1)
    rw [hA1, hD1] at TL
    have TL := Lib.hid TL
    have K1 := Lib.hid C1
    clear C1 hA1 hQ1 hh1 hD1
    go_upto_region 13 with fail
    have P0 := S4.out.l.s
    have P9 := S4.out.l.p
    have P8 := S4.out.l.t
    refine wp_region_lit ?_
    refine wpList_val (v := ?_) rfl ?_ ?_
    rotate_left
    · (go_simp; (try (first | with_reducible rfl | (constructor <;> with_reducible rfl))))
    (try simp only [Act.put, nA, nB, nC])
    refine wpList_val (v := ?_) rfl ?_ ?_
    rotate_left
    · refine Eq.trans (run_load_row 27 (.tmp 5) (by rfl) (w.heap.size) (by rfl) _ _ _ _ (P0) Try.underlying27 rfl (ist.trans (by rw [arrv_size]))) ?_; with_reducible rfl
    (try simp only [Act.put, nA, nB, nC])
    refine wpList_val (v := ?_) rfl ?_ ?_
    rotate_left
    · refine Eq.trans (run_load_row 30 (.tmp 6) (by rfl) (w.heap.size + 1) (by rfl) _ _ _ _ (P9) Try.underlying30 rfl (icov.trans (by rw [arrv_size]))) ?_; with_reducible rfl
    (try simp only [Act.put, nA, nB, nC])
    refine wpList_val (v := ?_) rfl ?_ ?_
    rotate_left
    · refine Eq.trans (run_load_row 34 (.tmp 7) (by rfl) (w.heap.size + 1 + 1) (by rfl) _ _ _ _ (P8) Try.underlying34 rfl (iv3.trans (by rw [arrv_size]))) ?_; with_reducible rfl
    (try simp only [Act.put, nA, nB, nC])
    refine wpList_val (v := ?_) rfl ?_ ?_
    rotate_left
    · (go_simp; (try (first | with_reducible rfl | (constructor <;> with_reducible rfl))))
    (try simp only [Act.put, nA, nB, nC])
    refine wpList_step (fun K hK => ?_)
    go_simp
    (refine (K1.out _ S4.out.l.fl.cell S4.out.l.fl.free).mono ?_); rintro e v0 ⟨rfl, hu⟩; have HU := Lib.hid (S4.out.upd' hu); clear S4 hu P0 P9 P8; have S4 := HU; clear HU; have N := Lib.hid (tl_three S4.out A1 Q1 D1)
    (try dsimp only)
    (try simp only [Act.put, nA, nB, nC])
    refine hK _ _ ?_
    clear hK K
    refine wpList_val (v := ?_) rfl ?_ ?_
    rotate_left
    · (go_simp; (try (first | with_reducible rfl | (constructor <;> with_reducible rfl))))
    (try simp only [Act.put, nA, nB, nC])
    refine wpList_val (v := ?_) rfl ?_ ?_
    rotate_left
    · (go_simp; (try (first | with_reducible rfl | (constructor <;> with_reducible rfl))))
    (try simp only [Act.put, nA, nB, nC])
    refine wpList_val (v := ?_) rfl ?_ ?_
    rotate_left
    · (go_simp; (try (first | with_reducible rfl | (constructor <;> with_reducible rfl))))
    (try simp only [Act.put, nA, nB, nC])
    refine wpList_val (v := ?_) rfl ?_ ?_
    rotate_left
    · (go_simp; (try (first | with_reducible rfl | (constructor <;> with_reducible rfl))))
    (try simp only [Act.put, nA, nB, nC])
    refine wpList_done (w' := ?_) rfl ?_ ?_
    rotate_left
    · (refine Eq.trans (run_store_row 27 (.tmp 12) (.tmp 51) (by rfl) ab (by rfl) (by rfl) S4.out.a (ist.trans rfl)) ?_; with_reducible rfl)
    (try simp only [Act.put, nA, nB, nC])
    refine wpList_done (w' := ?_) rfl ?_ ?_
    rotate_left
    · (refine Eq.trans (run_store_row 30 (.tmp 13) (.tmp 52) (by rfl) qb (by rfl) (by rfl) N.out.1 (icov.trans rfl)) ?_; with_reducible rfl)
    (try simp only [Act.put, nA, nB, nC])
    refine wpList_done (w' := ?_) rfl ?_ ?_
    rotate_left
    · (refine Eq.trans (run_store_row 38 (.tmp 14) (.tmp 53) (by rfl) db (by rfl) (by rfl) N.out.2.1 (itd.trans rfl)) ?_; with_reducible rfl)
    (try simp only [Act.put, nA, nB, nC])
    refine wpList_nil ?_
    have S5 := Lib.hid N.out.2.2
    generalize ((v0.setRow ab (arrv 24 A1)).setRow qb (arrv 300 Q1)).setRow db (arrv 11 D1) = V0 at *
    clear S4 N K1
    have GA := Lib.hid TL.out.g
    go_upto_region 20 with fail
    have P0 := S5.out.a
    refine wp_region_lit ?_
    refine wpList_val (v := ?_) rfl ?_ ?_
    rotate_left
    · refine Eq.trans (run_load_row 27 (.tmp 12) (by rfl) (ab) (by rfl) _ _ _ _ (P0) Try.underlying27 rfl (ist.trans (by rw [arrv_size]))) ?_; with_reducible rfl
    (try simp only [Act.put, nA, nB, nC])
    refine wpList_step (fun K hK => ?_)
    go_simp
    (refine (sgood_any A1 _).mono ?_); (rw [GA.out]); rintro e u0 ⟨rfl, hb⟩; have S6 := Lib.hid (S5.out.down hb); clear S5 hb P0; have P9 := S6.out.q
    (try dsimp only)
    (try simp only [Act.put, nA, nB, nC])
    refine hK _ _ ?_
    clear hK K
    refine wpList_val (v := ?_) rfl ?_ ?_
    rotate_left
    · (go_simp; (try (first | with_reducible rfl | (constructor <;> with_reducible rfl))))
    (try simp only [Act.put, nA, nB, nC])
    refine wpList_val (v := ?_) rfl ?_ ?_
    rotate_left
    · (go_simp; (try (first | with_reducible rfl | (constructor <;> with_reducible rfl))))
    (try simp only [Act.put, nA, nB, nC])
    first | (refine wpList_val (v := ?_) (by rfl) ?_ ?_; rotate_left; focus (refine Eq.trans (run_load_row 30 (.tmp 13) (by rfl) (qb) (by rfl) _ _ _ _ (P9) Try.underlying30 rfl (icov.trans (by rw [arrv_size]))) ?_; with_reducible rfl)) | refine wpList_skip (by rfl) ?_
    (try simp only [Act.put, nA, nB, nC])
    refine wpList_step (fun K hK => ?_)
    go_simp
    (refine (good_any Q1 _).mono ?_); (rw [GQ.out]); rintro e u1 ⟨rfl, hb⟩; have S7 := Lib.hid (S6.out.down hb); clear S6 hb P9
    (try dsimp only)
    (try simp only [Act.put, nA, nB, nC])
    refine hK _ _ ?_
    clear hK K
    first | (refine wpList_val (v := ?_) (by rfl) ?_ ?_; rotate_left; focus ((go_simp; (try (first | with_reducible rfl | (constructor <;> with_reducible rfl)))))) | refine wpList_skip (by rfl) ?_
    (try simp only [Act.put, nA, nB, nC])
    refine wpList_val (v := ?_) rfl ?_ ?_
    rotate_left
    · (go_simp; (try (first | with_reducible rfl | (constructor <;> with_reducible rfl))))
    (try simp only [Act.put, nA, nB, nC])
    refine wpList_nil ?_
    go_wp2_with fail
    go_loopw [17] (fun i wr => ∃ k : Nat, k ≤ 24 ∧ i = .int .i64 k ∧ Hid (TlR bc ab qb db h1 KE P T A1 Q1 D1 w wr)) (fun i _ => 24 - (intOf i).toNat)
    case atStart => exact ⟨0, by omega, rfl, S7⟩
    case round =>
      obtain ⟨k, hk, rfl, R⟩ := hrel
      clear S7
      by_cases hlt : k < 24
      · have g1 : decide ((k : Int) < 24) = true := by simp; omega
        have j0 : (0 : Int) ≤ (k : Int) := Int.natCast_nonneg _
        have j1 : (k : Int) < 24 := by omega
        have w1 : Go.IntKind.i64.wrap (4 + 3) = 7 := by decide
        have w2 : Go.IntKind.i64.wrap 7 = 7 := by decide
        by_cases c1 : k < 4
        · have f1 : decide ((k : Int) < 4) = true := by simp; omega
          have ra := R.out.a.cell hlt
          have rk := R.out.l.s.cell hlt
          rw [TL.out.eq k hlt (.inl c1)] at ra
          obtain ⟨V, hV⟩ : ∃ x, KE k = x := ⟨_, rfl⟩
          rw [hV] at ra rk
          have q1 : (V != V) = false := by simp
          clear hV
          go_upto_region 25 with fail
          go_quiet (fail)
          go_wp2_with fail
          go_roundw
          case rel => exact ⟨k + 1, by omega, by go_num, Lib.hid (R.out.down (below_drewN (Below.refl _ _) _))⟩
          case measure => simp [intOf]; omega
        · have f1 : decide ((k : Int) < 4) = false := by simp; omega
          by_cases c2 : 7 ≤ k
          · have f2 : decide (7 ≤ (k : Int)) = true := by simp; omega
            have ra := R.out.a.cell hlt
            have rk := R.out.l.s.cell hlt
            rw [TL.out.eq k hlt (.inr c2)] at ra
            obtain ⟨V, hV⟩ : ∃ x, KE k = x := ⟨_, rfl⟩
            rw [hV] at ra rk
            have q1 : (V != V) = false := by simp
            clear hV
            go_upto_region 25 with fail
            go_quiet (fail)
            go_wp2_with fail
            go_roundw
            case rel => exact ⟨k + 1, by omega, by go_num, Lib.hid (R.out.down (below_drewN (Below.refl _ _) _))⟩
            case measure => simp [intOf]; omega
          · have f2 : decide (7 ≤ (k : Int)) = false := by simp; omega
            go_upto_region 25 with fail
            go_quiet (fail)
            go_wp2_with fail
            go_roundw
            case rel => exact ⟨k + 1, by omega, by go_num, Lib.hid (R.out.down (below_drewN (Below.refl _ _) _))⟩
            case measure => simp [intOf]; omega
      · obtain rfl : k = 24 := by omega
        rw [show ((24 : Nat) : Int) = (24 : Int) from rfl]
        have g1 : decide ((24 : Int) < 24) = false := by decide
        go_wp2_with fail
        go_loopw [18] (fun i wr => ∃ k : Nat, k ≤ 3 ∧ i = .int .i64 k ∧ Hid (TlR bc ab qb db h1 KE P T A1 Q1 D1 w wr)) (fun i _ => 3 - (intOf i).toNat)
        case atStart => exact ⟨0, by omega, rfl, R⟩
        case round =>
          obtain ⟨k, hk, rfl, S⟩ := hrel
          clear R
          by_cases hlt : k < 3
          · obtain rfl | rfl | rfl : k = 0 ∨ k = 1 ∨ k = 2 := by omega
            · have ax := S.out.a.cell (i := 4) (by decide)
              have sx := S.out.l.s.cell (i := 4) (by decide)
              have dx := S.out.d.cell (i := 4) (by decide)
              have ay := S.out.a.cell (i := 7) (by decide)
              have sy := S.out.l.s.cell (i := 7) (by decide)
              have dy := S.out.d.cell (i := 7) (by decide)
              have bx := TL.out.bd 4 (by decide)
              have by' := TL.out.bd 7 (by decide)
              have ex := TL.out.dv 4 (by decide) (by decide)
              have ey := TL.out.dv 7 (by decide) (by decide)
              obtain ⟨x1, hx1⟩ : ∃ x, A1 4 = x := ⟨_, rfl⟩
              obtain ⟨x2, hx2⟩ : ∃ x, KE 4 = x := ⟨_, rfl⟩
              obtain ⟨x3, hx3⟩ : ∃ x, D1 4 = x := ⟨_, rfl⟩
              obtain ⟨y1, hy1⟩ : ∃ x, A1 7 = x := ⟨_, rfl⟩
              obtain ⟨y2, hy2⟩ : ∃ x, KE 7 = x := ⟨_, rfl⟩
              obtain ⟨y3, hy3⟩ : ∃ x, D1 7 = x := ⟨_, rfl⟩
              rw [hx1] at ax bx ex
              rw [hx2] at sx bx ex
              rw [hx3] at dx ex
              rw [hy1] at ay by' ey
              rw [hy2] at sy by' ey
              rw [hy3] at dy ey
              have u1 : Go.IntKind.i64.wrap (x1 - x2) = x3 := by rw [← ex]; exact IntWalk.i64_in _ (by omega)
              have u2 : Go.IntKind.i64.wrap (y1 - y2) = y3 := by rw [← ey]; exact IntWalk.i64_in _ (by omega)
              have u3 : (x3 != x3) = false := by simp
              have u4 : (y3 != y3) = false := by simp
              have u5 : Go.IntKind.i64.wrap 4 = 4 := by decide
              have u6 : Go.IntKind.i64.wrap 7 = 7 := by decide
              clear bx by' ex ey hx1 hx2 hx3 hy1 hy2 hy3
              go_upto_region 30 with fail
              go_quiet (fail)
              go_wp2_with fail
              go_roundw
              case rel => exact ⟨1, by omega, by go_num, Lib.hid (S.out.down (below_drewN (Below.refl _ _) _))⟩
              case measure => simp [intOf]
            · have ax := S.out.a.cell (i := 5) (by decide)
              have sx := S.out.l.s.cell (i := 5) (by decide)
              have dx := S.out.d.cell (i := 5) (by decide)
              have ay := S.out.a.cell (i := 8) (by decide)
              have sy := S.out.l.s.cell (i := 8) (by decide)
              have dy := S.out.d.cell (i := 8) (by decide)
              have bx := TL.out.bd 5 (by decide)
              have by' := TL.out.bd 8 (by decide)
              have ex := TL.out.dv 5 (by decide) (by decide)
              have ey := TL.out.dv 8 (by decide) (by decide)
              obtain ⟨x1, hx1⟩ : ∃ x, A1 5 = x := ⟨_, rfl⟩
              obtain ⟨x2, hx2⟩ : ∃ x, KE 5 = x := ⟨_, rfl⟩
              obtain ⟨x3, hx3⟩ : ∃ x, D1 5 = x := ⟨_, rfl⟩
              obtain ⟨y1, hy1⟩ : ∃ x, A1 8 = x := ⟨_, rfl⟩
              obtain ⟨y2, hy2⟩ : ∃ x, KE 8 = x := ⟨_, rfl⟩
              obtain ⟨y3, hy3⟩ : ∃ x, D1 8 = x := ⟨_, rfl⟩
              rw [hx1] at ax bx ex
              rw [hx2] at sx bx ex
              rw [hx3] at dx ex
              rw [hy1] at ay by' ey
              rw [hy2] at sy by' ey
              rw [hy3] at dy ey
              have u1 : Go.IntKind.i64.wrap (x1 - x2) = x3 := by rw [← ex]; exact IntWalk.i64_in _ (by omega)
              have u2 : Go.IntKind.i64.wrap (y1 - y2) = y3 := by rw [← ey]; exact IntWalk.i64_in _ (by omega)
              have u3 : (x3 != x3) = false := by simp
              have u4 : (y3 != y3) = false := by simp
              have u5 : Go.IntKind.i64.wrap 5 = 5 := by decide
              have u6 : Go.IntKind.i64.wrap 8 = 8 := by decide
              clear bx by' ex ey hx1 hx2 hx3 hy1 hy2 hy3
              go_upto_region 30 with fail
              go_quiet (fail)
              go_wp2_with fail
              go_roundw
              case rel => exact ⟨2, by omega, by go_num, Lib.hid (S.out.down (below_drewN (Below.refl _ _) _))⟩
              case measure => simp [intOf]
            · have ax := S.out.a.cell (i := 6) (by decide)
              have sx := S.out.l.s.cell (i := 6) (by decide)
              have dx := S.out.d.cell (i := 6) (by decide)
              have ay := S.out.a.cell (i := 9) (by decide)
              have sy := S.out.l.s.cell (i := 9) (by decide)
              have dy := S.out.d.cell (i := 9) (by decide)
              have bx := TL.out.bd 6 (by decide)
              have by' := TL.out.bd 9 (by decide)
              have ex := TL.out.dv 6 (by decide) (by decide)
              have ey := TL.out.dv 9 (by decide) (by decide)
              obtain ⟨x1, hx1⟩ : ∃ x, A1 6 = x := ⟨_, rfl⟩
              obtain ⟨x2, hx2⟩ : ∃ x, KE 6 = x := ⟨_, rfl⟩
              obtain ⟨x3, hx3⟩ : ∃ x, D1 6 = x := ⟨_, rfl⟩
              obtain ⟨y1, hy1⟩ : ∃ x, A1 9 = x := ⟨_, rfl⟩
              obtain ⟨y2, hy2⟩ : ∃ x, KE 9 = x := ⟨_, rfl⟩
              obtain ⟨y3, hy3⟩ : ∃ x, D1 9 = x := ⟨_, rfl⟩
              rw [hx1] at ax bx ex
              rw [hx2] at sx bx ex
              rw [hx3] at dx ex
              rw [hy1] at ay by' ey
              rw [hy2] at sy by' ey
              rw [hy3] at dy ey
              have u1 : Go.IntKind.i64.wrap (x1 - x2) = x3 := by rw [← ex]; exact IntWalk.i64_in _ (by omega)
              have u2 : Go.IntKind.i64.wrap (y1 - y2) = y3 := by rw [← ey]; exact IntWalk.i64_in _ (by omega)
              have u3 : (x3 != x3) = false := by simp
              have u4 : (y3 != y3) = false := by simp
              have u5 : Go.IntKind.i64.wrap 6 = 6 := by decide
              have u6 : Go.IntKind.i64.wrap 9 = 9 := by decide
              clear bx by' ex ey hx1 hx2 hx3 hy1 hy2 hy3
              go_upto_region 30 with fail
              go_quiet (fail)
              go_wp2_with fail
              go_roundw
              case rel => exact ⟨3, by omega, by go_num, Lib.hid (S.out.down (below_drewN (Below.refl _ _) _))⟩
              case measure => simp [intOf]
          · obtain rfl : k = 3 := by omega
            rw [show ((3 : Nat) : Int) = (3 : Int) from rfl]
            have g2 : decide ((3 : Int) < 3) = false := by decide
            have HE := Lib.hid (eqB_refl 4 oneQ)
            go_upto_region 32 with fail
            have HS := Lib.hid (S.out.down (Below.drew (Below.refl _ _)))
            clear S
            refine wp_region_M (fun w' => Blk w' db 38 11 D1) 10 (by kernel_rfl) ?_ (fun hHeld => ?_)
            · exact HS.out.d
            refine wpAnyM_take 0 (v := ?_) rfl (by kernel_rfl) (fun _ _ _ h => h) (Or.inl ⟨by rfl, ?_⟩) (by assumption) ?_
            rotate_left
            · (intro wx hSw; (try dsimp only at hSw); go_simp; (try with_reducible rfl))
            (try simp only [Act.put, nA, nB, nC])
            refine wpAnyM_take 1 (v := ?_) rfl (by kernel_rfl) (fun _ _ _ h => h) (Or.inl ⟨by rfl, ?_⟩) (by assumption) ?_
            rotate_left
            · (intro wx hSw; (try dsimp only at hSw); go_simp; (try rw [HM.out]); (try with_reducible rfl))
            (try simp only [Act.put, nA, nB, nC])
            refine wpAnyM_take 2 (v := ?_) rfl (by kernel_rfl) (fun _ _ _ h => h) (Or.inl ⟨by rfl, ?_⟩) (by assumption) ?_
            rotate_left
            · (intro wx hSw; (try dsimp only at hSw); go_simp; (try with_reducible rfl))
            (try simp only [Act.put, nA, nB, nC])
            refine wpAnyM_take 3 (v := ?_) rfl (by kernel_rfl) (fun _ _ _ h => h) (Or.inl ⟨by rfl, ?_⟩) (by assumption) ?_
            rotate_left
            · (intro wx hSw; (try dsimp only at hSw); go_simp; (try with_reducible rfl))
            (try simp only [Act.put, nA, nB, nC])
            first | (refine wpAnyM_take 4 (v := ?_) rfl (by kernel_rfl) (fun _ _ _ h => h) (Or.inl ⟨by rfl, ?_⟩) (by assumption) ?_; rotate_left; focus ((intro wx hSw; (try dsimp only at hSw); go_simp; (try with_reducible rfl)))) | (refine wpAnyM_take 4 rfl (by kernel_rfl) (fun _ _ _ h => h) (Or.inr ⟨by rfl, rfl⟩) (by assumption) ?_)
            (try simp only [Act.put, nA, nB, nC])
            first | (refine wpAnyM_take 5 (v := ?_) rfl (by kernel_rfl) (fun _ _ _ h => h) (Or.inl ⟨by rfl, ?_⟩) (by assumption) ?_; rotate_left; focus ((intro wx hSw; (try dsimp only at hSw); go_simp; (try with_reducible rfl)))) | (refine wpAnyM_take 5 rfl (by kernel_rfl) (fun _ _ _ h => h) (Or.inr ⟨by rfl, rfl⟩) (by assumption) ?_)
            (try simp only [Act.put, nA, nB, nC])
            first | (refine wpAnyM_take 6 (v := ?_) rfl (by kernel_rfl) (fun _ _ _ h => h) (Or.inl ⟨by rfl, ?_⟩) (by assumption) ?_; rotate_left; focus ((intro wx hSw; refine Eq.trans (run_load_sub 32 (.tmp 154) (by rfl) db 0 4 (by rfl) hSw (by decide) _ Try.underlying32 rfl iqt) ?_; rw [TN.out]))) | (refine wpAnyM_take 6 rfl (by kernel_rfl) (fun _ _ _ h => h) (Or.inr ⟨by rfl, rfl⟩) (by assumption) ?_)
            (try simp only [Act.put, nA, nB, nC])
            refine wpAnyM_oneS 7 rfl (by kernel_rfl) (fun K hK => ?_)
            go_simp
            first | ((refine (qone_any _).mono ?_); rintro e z1 ⟨rfl, hb⟩; have HU := Lib.hid (HS.out.down hb); clear HS hb; have HS := HU; clear HU) | skip
            (try dsimp only)
            (try simp only [Act.put, nA, nB, nC])
            clear hHeld
            refine hK.out _ _ ?_ (fun hHeld => ?_)
            · exact HS.out.d
            clear hK K
            (try simp only [Act.put, nA, nB, nC])
            first | (refine wpAnyM_take 8 (v := ?_) rfl (by kernel_rfl) (fun _ _ _ h => h) (Or.inl ⟨by rfl, ?_⟩) (by assumption) ?_; rotate_left; focus ((intro wx hSw; refine Eq.trans (run_op_eqlVec Try.underlying32 (by kernel_rfl) (.tmp 155) (.tmp 156) (by rfl) (by rfl) (by rfl) HE.out) ?_; with_reducible rfl))) | (refine wpAnyM_take 8 rfl (by kernel_rfl) (fun _ _ _ h => h) (Or.inr ⟨by rfl, rfl⟩) (by assumption) ?_)
            (try simp only [Act.put, nA, nB, nC])
            refine wpAnyM_take 9 (v := ?_) rfl (by kernel_rfl) (fun _ _ _ h => h) (Or.inl ⟨by rfl, ?_⟩) (by assumption) ?_
            rotate_left
            · (intro wx hSw; (try dsimp only at hSw); go_simp; (try with_reducible rfl))
            (try simp only [Act.put, nA, nB, nC])
            refine wpAnyM_one 10 rfl (by kernel_rfl) (fun K hK => ?_)
            go_simp
            refine hK.out _ _ (.inl (by kernel_rfl)) (fun _ => ?_)
            clear hK K
            (try simp only [Act.put, nA, nB, nC])
            refine wpAnyM_done (by kernel_rfl) ?_ _
            go_wp2_with fail
            go_ret
            exact ⟨rfl, HS.out.l.below⟩
  by_cases e1 : m = 1
  · subst e1
    have TL := tl_jump HK.out (fr := 7) (n := 2) (two2 t0 t1) 3 (by decide) (by decide)
    obtain ⟨A1, hA1⟩ : ∃ x, jpS KE 7 (two2 t0 t1) 2 = x := ⟨_, rfl⟩
    obtain ⟨Q1, hQ1⟩ : ∃ x, stepF P (rtF 7 2) (rtQ 7 (fun _ => v) 2) = x := ⟨_, rfl⟩
    obtain ⟨h1, hh1⟩ : ∃ x, (jpH h0 KE 7 (two2 t0 t1) 2 || orB (rtB 7 (fun _ => v)) 2 || stepH P (rtF 7 2) (rtQ 7 (fun _ => v) 2)) = x := ⟨_, rfl⟩
    obtain ⟨D1, hD1⟩ : ∃ x, midF (tdF dl0 3) 7 2 (mvD (keepF KE) 7 (two2 t0 t1)) = x := ⟨_, rfl⟩
    have C1 := fun (x : World) (k : x.cell? ⟨bc, 0, none⟩ = some (.bool h0)) (f : x.frozen? ⟨bc, 0, none⟩ = false) => hor_any ⟨bc, 0, none⟩ h0 KE P t0 t1 v x k f
    rw [hA1, hQ1, hh1, hD1] at C1
    have GQ := Lib.hid (show (!condH Q1) = true by rw [← hQ1, step_good]; rfl)
    have TN := Lib.hid (tl_turn (keepF KE) (two2 t0 t1) 3 (by decide) hD1)
    rw [hA1, hD1] at TL
    have TL := Lib.hid TL
    have K1 := Lib.hid C1
    clear C1 hA1 hQ1 hh1 hD1
    go_upto_region 15 with fail
    have P0 := S4.out.l.s
    have P9 := S4.out.l.p
    have p0 := S4.out.l.t.cell (i := 0) (by decide)
    rw [ht0] at p0
    have p1 := S4.out.l.t.cell (i := 1) (by decide)
    rw [ht1] at p1
    refine wp_region_lit ?_
    refine wpList_val (v := ?_) rfl ?_ ?_
    rotate_left
    · (go_simp; (try (first | with_reducible rfl | (constructor <;> with_reducible rfl))))
    (try simp only [Act.put, nA, nB, nC])
    refine wpList_val (v := ?_) rfl ?_ ?_
    rotate_left
    · refine Eq.trans (run_load_row 27 (.tmp 5) (by rfl) (w.heap.size) (by rfl) _ _ _ _ (P0) Try.underlying27 rfl (ist.trans (by rw [arrv_size]))) ?_; with_reducible rfl
    (try simp only [Act.put, nA, nB, nC])
    refine wpList_val (v := ?_) rfl ?_ ?_
    rotate_left
    · refine Eq.trans (run_load_row 30 (.tmp 6) (by rfl) (w.heap.size + 1) (by rfl) _ _ _ _ (P9) Try.underlying30 rfl (icov.trans (by rw [arrv_size]))) ?_; with_reducible rfl
    (try simp only [Act.put, nA, nB, nC])
    refine wpList_val (v := ?_) rfl ?_ ?_
    rotate_left
    · (go_simp; (try (first | with_reducible rfl | (constructor <;> with_reducible rfl))))
    (try simp only [Act.put, nA, nB, nC])
    refine wpList_val (v := ?_) rfl ?_ ?_
    rotate_left
    · (go_simp; (try (first | with_reducible rfl | (constructor <;> with_reducible rfl))))
    (try simp only [Act.put, nA, nB, nC])
    refine wpList_val (v := ?_) rfl ?_ ?_
    rotate_left
    · (go_simp; (try (first | with_reducible rfl | (constructor <;> with_reducible rfl))))
    (try simp only [Act.put, nA, nB, nC])
    refine wpList_val (v := ?_) rfl ?_ ?_
    rotate_left
    · (go_simp; (try (first | with_reducible rfl | (constructor <;> with_reducible rfl))))
    (try simp only [Act.put, nA, nB, nC])
    refine wpList_val (v := ?_) rfl ?_ ?_
    rotate_left
    · (go_simp; (try (first | with_reducible rfl | (constructor <;> with_reducible rfl))))
    (try simp only [Act.put, nA, nB, nC])
    refine wpList_step (fun K hK => ?_)
    go_simp
    (refine (K1.out _ S4.out.l.fl.cell S4.out.l.fl.free).mono ?_); rintro e v0 ⟨rfl, hu⟩; have HU := Lib.hid (S4.out.upd' hu); clear S4 hu P0 P9 p0 p1; have S4 := HU; clear HU; have N := Lib.hid (tl_three S4.out A1 Q1 D1)
    (try dsimp only)
    (try simp only [Act.put, nA, nB, nC])
    refine hK _ _ ?_
    clear hK K
    refine wpList_val (v := ?_) rfl ?_ ?_
    rotate_left
    · (go_simp; (try (first | with_reducible rfl | (constructor <;> with_reducible rfl))))
    (try simp only [Act.put, nA, nB, nC])
    refine wpList_val (v := ?_) rfl ?_ ?_
    rotate_left
    · (go_simp; (try (first | with_reducible rfl | (constructor <;> with_reducible rfl))))
    (try simp only [Act.put, nA, nB, nC])
    refine wpList_val (v := ?_) rfl ?_ ?_
    rotate_left
    · (go_simp; (try (first | with_reducible rfl | (constructor <;> with_reducible rfl))))
    (try simp only [Act.put, nA, nB, nC])
    refine wpList_val (v := ?_) rfl ?_ ?_
    rotate_left
    · (go_simp; (try (first | with_reducible rfl | (constructor <;> with_reducible rfl))))
    (try simp only [Act.put, nA, nB, nC])
    refine wpList_done (w' := ?_) rfl ?_ ?_
    rotate_left
    · (refine Eq.trans (run_store_row 27 (.tmp 12) (.tmp 66) (by rfl) ab (by rfl) (by rfl) S4.out.a (ist.trans rfl)) ?_; with_reducible rfl)
    (try simp only [Act.put, nA, nB, nC])
    refine wpList_done (w' := ?_) rfl ?_ ?_
    rotate_left
    · (refine Eq.trans (run_store_row 30 (.tmp 13) (.tmp 67) (by rfl) qb (by rfl) (by rfl) N.out.1 (icov.trans rfl)) ?_; with_reducible rfl)
    (try simp only [Act.put, nA, nB, nC])
    refine wpList_done (w' := ?_) rfl ?_ ?_
    rotate_left
    · (refine Eq.trans (run_store_row 38 (.tmp 14) (.tmp 68) (by rfl) db (by rfl) (by rfl) N.out.2.1 (itd.trans rfl)) ?_; with_reducible rfl)
    (try simp only [Act.put, nA, nB, nC])
    refine wpList_nil ?_
    have S5 := Lib.hid N.out.2.2
    generalize ((v0.setRow ab (arrv 24 A1)).setRow qb (arrv 300 Q1)).setRow db (arrv 11 D1) = V0 at *
    clear S4 N K1
    have GA := Lib.hid TL.out.g
    go_upto_region 20 with fail
    have P0 := S5.out.a
    refine wp_region_lit ?_
    refine wpList_val (v := ?_) rfl ?_ ?_
    rotate_left
    · refine Eq.trans (run_load_row 27 (.tmp 12) (by rfl) (ab) (by rfl) _ _ _ _ (P0) Try.underlying27 rfl (ist.trans (by rw [arrv_size]))) ?_; with_reducible rfl
    (try simp only [Act.put, nA, nB, nC])
    refine wpList_step (fun K hK => ?_)
    go_simp
    (refine (sgood_any A1 _).mono ?_); (rw [GA.out]); rintro e u0 ⟨rfl, hb⟩; have S6 := Lib.hid (S5.out.down hb); clear S5 hb P0; have P9 := S6.out.q
    (try dsimp only)
    (try simp only [Act.put, nA, nB, nC])
    refine hK _ _ ?_
    clear hK K
    refine wpList_val (v := ?_) rfl ?_ ?_
    rotate_left
    · (go_simp; (try (first | with_reducible rfl | (constructor <;> with_reducible rfl))))
    (try simp only [Act.put, nA, nB, nC])
    refine wpList_val (v := ?_) rfl ?_ ?_
    rotate_left
    · (go_simp; (try (first | with_reducible rfl | (constructor <;> with_reducible rfl))))
    (try simp only [Act.put, nA, nB, nC])
    first | (refine wpList_val (v := ?_) (by rfl) ?_ ?_; rotate_left; focus (refine Eq.trans (run_load_row 30 (.tmp 13) (by rfl) (qb) (by rfl) _ _ _ _ (P9) Try.underlying30 rfl (icov.trans (by rw [arrv_size]))) ?_; with_reducible rfl)) | refine wpList_skip (by rfl) ?_
    (try simp only [Act.put, nA, nB, nC])
    refine wpList_step (fun K hK => ?_)
    go_simp
    (refine (good_any Q1 _).mono ?_); (rw [GQ.out]); rintro e u1 ⟨rfl, hb⟩; have S7 := Lib.hid (S6.out.down hb); clear S6 hb P9
    (try dsimp only)
    (try simp only [Act.put, nA, nB, nC])
    refine hK _ _ ?_
    clear hK K
    first | (refine wpList_val (v := ?_) (by rfl) ?_ ?_; rotate_left; focus ((go_simp; (try (first | with_reducible rfl | (constructor <;> with_reducible rfl)))))) | refine wpList_skip (by rfl) ?_
    (try simp only [Act.put, nA, nB, nC])
    refine wpList_val (v := ?_) rfl ?_ ?_
    rotate_left
    · (go_simp; (try (first | with_reducible rfl | (constructor <;> with_reducible rfl))))
    (try simp only [Act.put, nA, nB, nC])
    refine wpList_nil ?_
    go_wp2_with fail
    go_loopw [17] (fun i wr => ∃ k : Nat, k ≤ 24 ∧ i = .int .i64 k ∧ Hid (TlR bc ab qb db h1 KE P T A1 Q1 D1 w wr)) (fun i _ => 24 - (intOf i).toNat)
    case atStart => exact ⟨0, by omega, rfl, S7⟩
    case round =>
      obtain ⟨k, hk, rfl, R⟩ := hrel
      clear S7
      by_cases hlt : k < 24
      · have g1 : decide ((k : Int) < 24) = true := by simp; omega
        have j0 : (0 : Int) ≤ (k : Int) := Int.natCast_nonneg _
        have j1 : (k : Int) < 24 := by omega
        have w1 : Go.IntKind.i64.wrap (7 + 2) = 9 := by decide
        have w2 : Go.IntKind.i64.wrap 9 = 9 := by decide
        by_cases c1 : k < 7
        · have f1 : decide ((k : Int) < 7) = true := by simp; omega
          have ra := R.out.a.cell hlt
          have rk := R.out.l.s.cell hlt
          rw [TL.out.eq k hlt (.inl c1)] at ra
          obtain ⟨V, hV⟩ : ∃ x, KE k = x := ⟨_, rfl⟩
          rw [hV] at ra rk
          have q1 : (V != V) = false := by simp
          clear hV
          go_upto_region 25 with fail
          go_quiet (fail)
          go_wp2_with fail
          go_roundw
          case rel => exact ⟨k + 1, by omega, by go_num, Lib.hid (R.out.down (below_drewN (Below.refl _ _) _))⟩
          case measure => simp [intOf]; omega
        · have f1 : decide ((k : Int) < 7) = false := by simp; omega
          by_cases c2 : 9 ≤ k
          · have f2 : decide (9 ≤ (k : Int)) = true := by simp; omega
            have ra := R.out.a.cell hlt
            have rk := R.out.l.s.cell hlt
            rw [TL.out.eq k hlt (.inr c2)] at ra
            obtain ⟨V, hV⟩ : ∃ x, KE k = x := ⟨_, rfl⟩
            rw [hV] at ra rk
            have q1 : (V != V) = false := by simp
            clear hV
            go_upto_region 25 with fail
            go_quiet (fail)
            go_wp2_with fail
            go_roundw
            case rel => exact ⟨k + 1, by omega, by go_num, Lib.hid (R.out.down (below_drewN (Below.refl _ _) _))⟩
            case measure => simp [intOf]; omega
          · have f2 : decide (9 ≤ (k : Int)) = false := by simp; omega
            go_upto_region 25 with fail
            go_quiet (fail)
            go_wp2_with fail
            go_roundw
            case rel => exact ⟨k + 1, by omega, by go_num, Lib.hid (R.out.down (below_drewN (Below.refl _ _) _))⟩
            case measure => simp [intOf]; omega
      · obtain rfl : k = 24 := by omega
        rw [show ((24 : Nat) : Int) = (24 : Int) from rfl]
        have g1 : decide ((24 : Int) < 24) = false := by decide
        go_wp2_with fail
        go_loopw [18] (fun i wr => ∃ k : Nat, k ≤ 3 ∧ i = .int .i64 k ∧ Hid (TlR bc ab qb db h1 KE P T A1 Q1 D1 w wr)) (fun i _ => 3 - (intOf i).toNat)
        case atStart => exact ⟨0, by omega, rfl, R⟩
        case round =>
          obtain ⟨k, hk, rfl, S⟩ := hrel
          clear R
          by_cases hlt : k < 3
          · obtain rfl | rfl | rfl : k = 0 ∨ k = 1 ∨ k = 2 := by omega
            · have ax := S.out.a.cell (i := 4) (by decide)
              have sx := S.out.l.s.cell (i := 4) (by decide)
              have dx := S.out.d.cell (i := 4) (by decide)
              have ay := S.out.a.cell (i := 7) (by decide)
              have sy := S.out.l.s.cell (i := 7) (by decide)
              have dy := S.out.d.cell (i := 7) (by decide)
              have bx := TL.out.bd 4 (by decide)
              have by' := TL.out.bd 7 (by decide)
              have ex := TL.out.dv 4 (by decide) (by decide)
              have ey := TL.out.dv 7 (by decide) (by decide)
              obtain ⟨x1, hx1⟩ : ∃ x, A1 4 = x := ⟨_, rfl⟩
              obtain ⟨x2, hx2⟩ : ∃ x, KE 4 = x := ⟨_, rfl⟩
              obtain ⟨x3, hx3⟩ : ∃ x, D1 4 = x := ⟨_, rfl⟩
              obtain ⟨y1, hy1⟩ : ∃ x, A1 7 = x := ⟨_, rfl⟩
              obtain ⟨y2, hy2⟩ : ∃ x, KE 7 = x := ⟨_, rfl⟩
              obtain ⟨y3, hy3⟩ : ∃ x, D1 7 = x := ⟨_, rfl⟩
              rw [hx1] at ax bx ex
              rw [hx2] at sx bx ex
              rw [hx3] at dx ex
              rw [hy1] at ay by' ey
              rw [hy2] at sy by' ey
              rw [hy3] at dy ey
              have u1 : Go.IntKind.i64.wrap (x1 - x2) = x3 := by rw [← ex]; exact IntWalk.i64_in _ (by omega)
              have u2 : Go.IntKind.i64.wrap (y1 - y2) = y3 := by rw [← ey]; exact IntWalk.i64_in _ (by omega)
              have u3 : (x3 != x3) = false := by simp
              have u4 : (y3 != y3) = false := by simp
              have u5 : Go.IntKind.i64.wrap 4 = 4 := by decide
              have u6 : Go.IntKind.i64.wrap 7 = 7 := by decide
              clear bx by' ex ey hx1 hx2 hx3 hy1 hy2 hy3
              go_upto_region 30 with fail
              go_quiet (fail)
              go_wp2_with fail
              go_roundw
              case rel => exact ⟨1, by omega, by go_num, Lib.hid (S.out.down (below_drewN (Below.refl _ _) _))⟩
              case measure => simp [intOf]
            · have ax := S.out.a.cell (i := 5) (by decide)
              have sx := S.out.l.s.cell (i := 5) (by decide)
              have dx := S.out.d.cell (i := 5) (by decide)
              have ay := S.out.a.cell (i := 8) (by decide)
              have sy := S.out.l.s.cell (i := 8) (by decide)
              have dy := S.out.d.cell (i := 8) (by decide)
              have bx := TL.out.bd 5 (by decide)
              have by' := TL.out.bd 8 (by decide)
              have ex := TL.out.dv 5 (by decide) (by decide)
              have ey := TL.out.dv 8 (by decide) (by decide)
              obtain ⟨x1, hx1⟩ : ∃ x, A1 5 = x := ⟨_, rfl⟩
              obtain ⟨x2, hx2⟩ : ∃ x, KE 5 = x := ⟨_, rfl⟩
              obtain ⟨x3, hx3⟩ : ∃ x, D1 5 = x := ⟨_, rfl⟩
              obtain ⟨y1, hy1⟩ : ∃ x, A1 8 = x := ⟨_, rfl⟩
              obtain ⟨y2, hy2⟩ : ∃ x, KE 8 = x := ⟨_, rfl⟩
              obtain ⟨y3, hy3⟩ : ∃ x, D1 8 = x := ⟨_, rfl⟩
              rw [hx1] at ax bx ex
              rw [hx2] at sx bx ex
              rw [hx3] at dx ex
              rw [hy1] at ay by' ey
              rw [hy2] at sy by' ey
              rw [hy3] at dy ey
              have u1 : Go.IntKind.i64.wrap (x1 - x2) = x3 := by rw [← ex]; exact IntWalk.i64_in _ (by omega)
              have u2 : Go.IntKind.i64.wrap (y1 - y2) = y3 := by rw [← ey]; exact IntWalk.i64_in _ (by omega)
              have u3 : (x3 != x3) = false := by simp
              have u4 : (y3 != y3) = false := by simp
              have u5 : Go.IntKind.i64.wrap 5 = 5 := by decide
              have u6 : Go.IntKind.i64.wrap 8 = 8 := by decide
              clear bx by' ex ey hx1 hx2 hx3 hy1 hy2 hy3
              go_upto_region 30 with fail
              go_quiet (fail)
              go_wp2_with fail
              go_roundw
              case rel => exact ⟨2, by omega, by go_num, Lib.hid (S.out.down (below_drewN (Below.refl _ _) _))⟩
              case measure => simp [intOf]
            · have ax := S.out.a.cell (i := 6) (by decide)
              have sx := S.out.l.s.cell (i := 6) (by decide)
              have dx := S.out.d.cell (i := 6) (by decide)
              have ay := S.out.a.cell (i := 9) (by decide)
              have sy := S.out.l.s.cell (i := 9) (by decide)
              have dy := S.out.d.cell (i := 9) (by decide)
              have bx := TL.out.bd 6 (by decide)
              have by' := TL.out.bd 9 (by decide)
              have ex := TL.out.dv 6 (by decide) (by decide)
              have ey := TL.out.dv 9 (by decide) (by decide)
              obtain ⟨x1, hx1⟩ : ∃ x, A1 6 = x := ⟨_, rfl⟩
              obtain ⟨x2, hx2⟩ : ∃ x, KE 6 = x := ⟨_, rfl⟩
              obtain ⟨x3, hx3⟩ : ∃ x, D1 6 = x := ⟨_, rfl⟩
              obtain ⟨y1, hy1⟩ : ∃ x, A1 9 = x := ⟨_, rfl⟩
              obtain ⟨y2, hy2⟩ : ∃ x, KE 9 = x := ⟨_, rfl⟩
              obtain ⟨y3, hy3⟩ : ∃ x, D1 9 = x := ⟨_, rfl⟩
              rw [hx1] at ax bx ex
              rw [hx2] at sx bx ex
              rw [hx3] at dx ex
              rw [hy1] at ay by' ey
              rw [hy2] at sy by' ey
              rw [hy3] at dy ey
              have u1 : Go.IntKind.i64.wrap (x1 - x2) = x3 := by rw [← ex]; exact IntWalk.i64_in _ (by omega)
              have u2 : Go.IntKind.i64.wrap (y1 - y2) = y3 := by rw [← ey]; exact IntWalk.i64_in _ (by omega)
              have u3 : (x3 != x3) = false := by simp
              have u4 : (y3 != y3) = false := by simp
              have u5 : Go.IntKind.i64.wrap 6 = 6 := by decide
              have u6 : Go.IntKind.i64.wrap 9 = 9 := by decide
              clear bx by' ex ey hx1 hx2 hx3 hy1 hy2 hy3
              go_upto_region 30 with fail
              go_quiet (fail)
              go_wp2_with fail
              go_roundw
              case rel => exact ⟨3, by omega, by go_num, Lib.hid (S.out.down (below_drewN (Below.refl _ _) _))⟩
              case measure => simp [intOf]
          · obtain rfl : k = 3 := by omega
            rw [show ((3 : Nat) : Int) = (3 : Int) from rfl]
            have g2 : decide ((3 : Int) < 3) = false := by decide
            have HE := Lib.hid (eqB_refl 4 oneQ)
            go_upto_region 32 with fail
            have HS := Lib.hid (S.out.down (Below.drew (Below.refl _ _)))
            clear S
            refine wp_region_M (fun w' => Blk w' db 38 11 D1) 10 (by kernel_rfl) ?_ (fun hHeld => ?_)
            · exact HS.out.d
            refine wpAnyM_take 0 (v := ?_) rfl (by kernel_rfl) (fun _ _ _ h => h) (Or.inl ⟨by rfl, ?_⟩) (by assumption) ?_
            rotate_left
            · (intro wx hSw; (try dsimp only at hSw); go_simp; (try with_reducible rfl))
            (try simp only [Act.put, nA, nB, nC])
            refine wpAnyM_take 1 (v := ?_) rfl (by kernel_rfl) (fun _ _ _ h => h) (Or.inl ⟨by rfl, ?_⟩) (by assumption) ?_
            rotate_left
            · (intro wx hSw; (try dsimp only at hSw); go_simp; (try rw [HM.out]); (try with_reducible rfl))
            (try simp only [Act.put, nA, nB, nC])
            refine wpAnyM_take 2 (v := ?_) rfl (by kernel_rfl) (fun _ _ _ h => h) (Or.inl ⟨by rfl, ?_⟩) (by assumption) ?_
            rotate_left
            · (intro wx hSw; (try dsimp only at hSw); go_simp; (try with_reducible rfl))
            (try simp only [Act.put, nA, nB, nC])
            refine wpAnyM_take 3 (v := ?_) rfl (by kernel_rfl) (fun _ _ _ h => h) (Or.inl ⟨by rfl, ?_⟩) (by assumption) ?_
            rotate_left
            · (intro wx hSw; (try dsimp only at hSw); go_simp; (try with_reducible rfl))
            (try simp only [Act.put, nA, nB, nC])
            first | (refine wpAnyM_take 4 (v := ?_) rfl (by kernel_rfl) (fun _ _ _ h => h) (Or.inl ⟨by rfl, ?_⟩) (by assumption) ?_; rotate_left; focus ((intro wx hSw; (try dsimp only at hSw); go_simp; (try with_reducible rfl)))) | (refine wpAnyM_take 4 rfl (by kernel_rfl) (fun _ _ _ h => h) (Or.inr ⟨by rfl, rfl⟩) (by assumption) ?_)
            (try simp only [Act.put, nA, nB, nC])
            first | (refine wpAnyM_take 5 (v := ?_) rfl (by kernel_rfl) (fun _ _ _ h => h) (Or.inl ⟨by rfl, ?_⟩) (by assumption) ?_; rotate_left; focus ((intro wx hSw; (try dsimp only at hSw); go_simp; (try with_reducible rfl)))) | (refine wpAnyM_take 5 rfl (by kernel_rfl) (fun _ _ _ h => h) (Or.inr ⟨by rfl, rfl⟩) (by assumption) ?_)
            (try simp only [Act.put, nA, nB, nC])
            first | (refine wpAnyM_take 6 (v := ?_) rfl (by kernel_rfl) (fun _ _ _ h => h) (Or.inl ⟨by rfl, ?_⟩) (by assumption) ?_; rotate_left; focus ((intro wx hSw; refine Eq.trans (run_load_sub 32 (.tmp 154) (by rfl) db 0 4 (by rfl) hSw (by decide) _ Try.underlying32 rfl iqt) ?_; rw [TN.out]))) | (refine wpAnyM_take 6 rfl (by kernel_rfl) (fun _ _ _ h => h) (Or.inr ⟨by rfl, rfl⟩) (by assumption) ?_)
            (try simp only [Act.put, nA, nB, nC])
            refine wpAnyM_oneS 7 rfl (by kernel_rfl) (fun K hK => ?_)
            go_simp
            first | ((refine (qone_any _).mono ?_); rintro e z1 ⟨rfl, hb⟩; have HU := Lib.hid (HS.out.down hb); clear HS hb; have HS := HU; clear HU) | skip
            (try dsimp only)
            (try simp only [Act.put, nA, nB, nC])
            clear hHeld
            refine hK.out _ _ ?_ (fun hHeld => ?_)
            · exact HS.out.d
            clear hK K
            (try simp only [Act.put, nA, nB, nC])
            first | (refine wpAnyM_take 8 (v := ?_) rfl (by kernel_rfl) (fun _ _ _ h => h) (Or.inl ⟨by rfl, ?_⟩) (by assumption) ?_; rotate_left; focus ((intro wx hSw; refine Eq.trans (run_op_eqlVec Try.underlying32 (by kernel_rfl) (.tmp 155) (.tmp 156) (by rfl) (by rfl) (by rfl) HE.out) ?_; with_reducible rfl))) | (refine wpAnyM_take 8 rfl (by kernel_rfl) (fun _ _ _ h => h) (Or.inr ⟨by rfl, rfl⟩) (by assumption) ?_)
            (try simp only [Act.put, nA, nB, nC])
            refine wpAnyM_take 9 (v := ?_) rfl (by kernel_rfl) (fun _ _ _ h => h) (Or.inl ⟨by rfl, ?_⟩) (by assumption) ?_
            rotate_left
            · (intro wx hSw; (try dsimp only at hSw); go_simp; (try with_reducible rfl))
            (try simp only [Act.put, nA, nB, nC])
            refine wpAnyM_one 10 rfl (by kernel_rfl) (fun K hK => ?_)
            go_simp
            refine hK.out _ _ (.inl (by kernel_rfl)) (fun _ => ?_)
            clear hK K
            (try simp only [Act.put, nA, nB, nC])
            refine wpAnyM_done (by kernel_rfl) ?_ _
            go_wp2_with fail
            go_ret
            exact ⟨rfl, HS.out.l.below⟩
  by_cases e2 : m = 2
  · subst e2
    have TL := tl_jump HK.out (fr := 9) (n := 1) (fun _ => t2) 4 (by decide) (by decide)
    obtain ⟨A1, hA1⟩ : ∃ x, jpS KE 9 (fun _ => t2) 1 = x := ⟨_, rfl⟩
    obtain ⟨Q1, hQ1⟩ : ∃ x, stepF P (rtF 9 1) (rtQ 9 (fun _ => v) 1) = x := ⟨_, rfl⟩
    obtain ⟨h1, hh1⟩ : ∃ x, (jpH h0 KE 9 (fun _ => t2) 1 || orB (rtB 9 (fun _ => v)) 1 || stepH P (rtF 9 1) (rtQ 9 (fun _ => v) 1)) = x := ⟨_, rfl⟩
    obtain ⟨D1, hD1⟩ : ∃ x, midF (tdF dl0 4) 9 1 (mvD (keepF KE) 9 (fun _ => t2)) = x := ⟨_, rfl⟩
    have C1 := fun (x : World) (k : x.cell? ⟨bc, 0, none⟩ = some (.bool h0)) (f : x.frozen? ⟨bc, 0, none⟩ = false) => hgt_any ⟨bc, 0, none⟩ h0 KE P t2 v x k f
    rw [hA1, hQ1, hh1, hD1] at C1
    have GQ := Lib.hid (show (!condH Q1) = true by rw [← hQ1, step_good]; rfl)
    have TN := Lib.hid (tl_turn (keepF KE) (fun _ => t2) 4 (by decide) hD1)
    rw [hA1, hD1] at TL
    have TL := Lib.hid TL
    have K1 := Lib.hid C1
    clear C1 hA1 hQ1 hh1 hD1
    go_upto_region 18 with fail
    have P0 := S4.out.l.s
    have P9 := S4.out.l.p
    have p2 := S4.out.l.t.cell (i := 2) (by decide)
    rw [ht2] at p2
    refine wp_region_lit ?_
    refine wpList_val (v := ?_) rfl ?_ ?_
    rotate_left
    · (go_simp; (try (first | with_reducible rfl | (constructor <;> with_reducible rfl))))
    (try simp only [Act.put, nA, nB, nC])
    refine wpList_val (v := ?_) rfl ?_ ?_
    rotate_left
    · refine Eq.trans (run_load_row 27 (.tmp 5) (by rfl) (w.heap.size) (by rfl) _ _ _ _ (P0) Try.underlying27 rfl (ist.trans (by rw [arrv_size]))) ?_; with_reducible rfl
    (try simp only [Act.put, nA, nB, nC])
    refine wpList_val (v := ?_) rfl ?_ ?_
    rotate_left
    · refine Eq.trans (run_load_row 30 (.tmp 6) (by rfl) (w.heap.size + 1) (by rfl) _ _ _ _ (P9) Try.underlying30 rfl (icov.trans (by rw [arrv_size]))) ?_; with_reducible rfl
    (try simp only [Act.put, nA, nB, nC])
    refine wpList_val (v := ?_) rfl ?_ ?_
    rotate_left
    · (go_simp; (try (first | with_reducible rfl | (constructor <;> with_reducible rfl))))
    (try simp only [Act.put, nA, nB, nC])
    refine wpList_val (v := ?_) rfl ?_ ?_
    rotate_left
    · (go_simp; (try (first | with_reducible rfl | (constructor <;> with_reducible rfl))))
    (try simp only [Act.put, nA, nB, nC])
    refine wpList_val (v := ?_) rfl ?_ ?_
    rotate_left
    · (go_simp; (try (first | with_reducible rfl | (constructor <;> with_reducible rfl))))
    (try simp only [Act.put, nA, nB, nC])
    refine wpList_step (fun K hK => ?_)
    go_simp
    (refine (K1.out _ S4.out.l.fl.cell S4.out.l.fl.free).mono ?_); rintro e v0 ⟨rfl, hu⟩; have HU := Lib.hid (S4.out.upd' hu); clear S4 hu P0 P9 p2; have S4 := HU; clear HU; have N := Lib.hid (tl_three S4.out A1 Q1 D1)
    (try dsimp only)
    (try simp only [Act.put, nA, nB, nC])
    refine hK _ _ ?_
    clear hK K
    refine wpList_val (v := ?_) rfl ?_ ?_
    rotate_left
    · (go_simp; (try (first | with_reducible rfl | (constructor <;> with_reducible rfl))))
    (try simp only [Act.put, nA, nB, nC])
    refine wpList_val (v := ?_) rfl ?_ ?_
    rotate_left
    · (go_simp; (try (first | with_reducible rfl | (constructor <;> with_reducible rfl))))
    (try simp only [Act.put, nA, nB, nC])
    refine wpList_val (v := ?_) rfl ?_ ?_
    rotate_left
    · (go_simp; (try (first | with_reducible rfl | (constructor <;> with_reducible rfl))))
    (try simp only [Act.put, nA, nB, nC])
    refine wpList_val (v := ?_) rfl ?_ ?_
    rotate_left
    · (go_simp; (try (first | with_reducible rfl | (constructor <;> with_reducible rfl))))
    (try simp only [Act.put, nA, nB, nC])
    refine wpList_done (w' := ?_) rfl ?_ ?_
    rotate_left
    · (refine Eq.trans (run_store_row 27 (.tmp 12) (.tmp 79) (by rfl) ab (by rfl) (by rfl) S4.out.a (ist.trans rfl)) ?_; with_reducible rfl)
    (try simp only [Act.put, nA, nB, nC])
    refine wpList_done (w' := ?_) rfl ?_ ?_
    rotate_left
    · (refine Eq.trans (run_store_row 30 (.tmp 13) (.tmp 80) (by rfl) qb (by rfl) (by rfl) N.out.1 (icov.trans rfl)) ?_; with_reducible rfl)
    (try simp only [Act.put, nA, nB, nC])
    refine wpList_done (w' := ?_) rfl ?_ ?_
    rotate_left
    · (refine Eq.trans (run_store_row 38 (.tmp 14) (.tmp 81) (by rfl) db (by rfl) (by rfl) N.out.2.1 (itd.trans rfl)) ?_; with_reducible rfl)
    (try simp only [Act.put, nA, nB, nC])
    refine wpList_nil ?_
    have S5 := Lib.hid N.out.2.2
    generalize ((v0.setRow ab (arrv 24 A1)).setRow qb (arrv 300 Q1)).setRow db (arrv 11 D1) = V0 at *
    clear S4 N K1
    have GA := Lib.hid TL.out.g
    go_upto_region 20 with fail
    have P0 := S5.out.a
    refine wp_region_lit ?_
    refine wpList_val (v := ?_) rfl ?_ ?_
    rotate_left
    · refine Eq.trans (run_load_row 27 (.tmp 12) (by rfl) (ab) (by rfl) _ _ _ _ (P0) Try.underlying27 rfl (ist.trans (by rw [arrv_size]))) ?_; with_reducible rfl
    (try simp only [Act.put, nA, nB, nC])
    refine wpList_step (fun K hK => ?_)
    go_simp
    (refine (sgood_any A1 _).mono ?_); (rw [GA.out]); rintro e u0 ⟨rfl, hb⟩; have S6 := Lib.hid (S5.out.down hb); clear S5 hb P0; have P9 := S6.out.q
    (try dsimp only)
    (try simp only [Act.put, nA, nB, nC])
    refine hK _ _ ?_
    clear hK K
    refine wpList_val (v := ?_) rfl ?_ ?_
    rotate_left
    · (go_simp; (try (first | with_reducible rfl | (constructor <;> with_reducible rfl))))
    (try simp only [Act.put, nA, nB, nC])
    refine wpList_val (v := ?_) rfl ?_ ?_
    rotate_left
    · (go_simp; (try (first | with_reducible rfl | (constructor <;> with_reducible rfl))))
    (try simp only [Act.put, nA, nB, nC])
    first | (refine wpList_val (v := ?_) (by rfl) ?_ ?_; rotate_left; focus (refine Eq.trans (run_load_row 30 (.tmp 13) (by rfl) (qb) (by rfl) _ _ _ _ (P9) Try.underlying30 rfl (icov.trans (by rw [arrv_size]))) ?_; with_reducible rfl)) | refine wpList_skip (by rfl) ?_
    (try simp only [Act.put, nA, nB, nC])
    refine wpList_step (fun K hK => ?_)
    go_simp
    (refine (good_any Q1 _).mono ?_); (rw [GQ.out]); rintro e u1 ⟨rfl, hb⟩; have S7 := Lib.hid (S6.out.down hb); clear S6 hb P9
    (try dsimp only)
    (try simp only [Act.put, nA, nB, nC])
    refine hK _ _ ?_
    clear hK K
    first | (refine wpList_val (v := ?_) (by rfl) ?_ ?_; rotate_left; focus ((go_simp; (try (first | with_reducible rfl | (constructor <;> with_reducible rfl)))))) | refine wpList_skip (by rfl) ?_
    (try simp only [Act.put, nA, nB, nC])
    refine wpList_val (v := ?_) rfl ?_ ?_
    rotate_left
    · (go_simp; (try (first | with_reducible rfl | (constructor <;> with_reducible rfl))))
    (try simp only [Act.put, nA, nB, nC])
    refine wpList_nil ?_
    go_wp2_with fail
    go_loopw [17] (fun i wr => ∃ k : Nat, k ≤ 24 ∧ i = .int .i64 k ∧ Hid (TlR bc ab qb db h1 KE P T A1 Q1 D1 w wr)) (fun i _ => 24 - (intOf i).toNat)
    case atStart => exact ⟨0, by omega, rfl, S7⟩
    case round =>
      obtain ⟨k, hk, rfl, R⟩ := hrel
      clear S7
      by_cases hlt : k < 24
      · have g1 : decide ((k : Int) < 24) = true := by simp; omega
        have j0 : (0 : Int) ≤ (k : Int) := Int.natCast_nonneg _
        have j1 : (k : Int) < 24 := by omega
        have w1 : Go.IntKind.i64.wrap (9 + 1) = 10 := by decide
        have w2 : Go.IntKind.i64.wrap 10 = 10 := by decide
        by_cases c1 : k < 9
        · have f1 : decide ((k : Int) < 9) = true := by simp; omega
          have ra := R.out.a.cell hlt
          have rk := R.out.l.s.cell hlt
          rw [TL.out.eq k hlt (.inl c1)] at ra
          obtain ⟨V, hV⟩ : ∃ x, KE k = x := ⟨_, rfl⟩
          rw [hV] at ra rk
          have q1 : (V != V) = false := by simp
          clear hV
          go_upto_region 25 with fail
          go_quiet (fail)
          go_wp2_with fail
          go_roundw
          case rel => exact ⟨k + 1, by omega, by go_num, Lib.hid (R.out.down (below_drewN (Below.refl _ _) _))⟩
          case measure => simp [intOf]; omega
        · have f1 : decide ((k : Int) < 9) = false := by simp; omega
          by_cases c2 : 10 ≤ k
          · have f2 : decide (10 ≤ (k : Int)) = true := by simp; omega
            have ra := R.out.a.cell hlt
            have rk := R.out.l.s.cell hlt
            rw [TL.out.eq k hlt (.inr c2)] at ra
            obtain ⟨V, hV⟩ : ∃ x, KE k = x := ⟨_, rfl⟩
            rw [hV] at ra rk
            have q1 : (V != V) = false := by simp
            clear hV
            go_upto_region 25 with fail
            go_quiet (fail)
            go_wp2_with fail
            go_roundw
            case rel => exact ⟨k + 1, by omega, by go_num, Lib.hid (R.out.down (below_drewN (Below.refl _ _) _))⟩
            case measure => simp [intOf]; omega
          · have f2 : decide (10 ≤ (k : Int)) = false := by simp; omega
            go_upto_region 25 with fail
            go_quiet (fail)
            go_wp2_with fail
            go_roundw
            case rel => exact ⟨k + 1, by omega, by go_num, Lib.hid (R.out.down (below_drewN (Below.refl _ _) _))⟩
            case measure => simp [intOf]; omega
      · obtain rfl : k = 24 := by omega
        rw [show ((24 : Nat) : Int) = (24 : Int) from rfl]
        have g1 : decide ((24 : Int) < 24) = false := by decide
        go_wp2_with fail
        go_loopw [18] (fun i wr => ∃ k : Nat, k ≤ 3 ∧ i = .int .i64 k ∧ Hid (TlR bc ab qb db h1 KE P T A1 Q1 D1 w wr)) (fun i _ => 3 - (intOf i).toNat)
        case atStart => exact ⟨0, by omega, rfl, R⟩
        case round =>
          obtain ⟨k, hk, rfl, S⟩ := hrel
          clear R
          by_cases hlt : k < 3
          · obtain rfl | rfl | rfl : k = 0 ∨ k = 1 ∨ k = 2 := by omega
            · have ax := S.out.a.cell (i := 4) (by decide)
              have sx := S.out.l.s.cell (i := 4) (by decide)
              have dx := S.out.d.cell (i := 4) (by decide)
              have ay := S.out.a.cell (i := 7) (by decide)
              have sy := S.out.l.s.cell (i := 7) (by decide)
              have dy := S.out.d.cell (i := 7) (by decide)
              have bx := TL.out.bd 4 (by decide)
              have by' := TL.out.bd 7 (by decide)
              have ex := TL.out.dv 4 (by decide) (by decide)
              have ey := TL.out.dv 7 (by decide) (by decide)
              obtain ⟨x1, hx1⟩ : ∃ x, A1 4 = x := ⟨_, rfl⟩
              obtain ⟨x2, hx2⟩ : ∃ x, KE 4 = x := ⟨_, rfl⟩
              obtain ⟨x3, hx3⟩ : ∃ x, D1 4 = x := ⟨_, rfl⟩
              obtain ⟨y1, hy1⟩ : ∃ x, A1 7 = x := ⟨_, rfl⟩
              obtain ⟨y2, hy2⟩ : ∃ x, KE 7 = x := ⟨_, rfl⟩
              obtain ⟨y3, hy3⟩ : ∃ x, D1 7 = x := ⟨_, rfl⟩
              rw [hx1] at ax bx ex
              rw [hx2] at sx bx ex
              rw [hx3] at dx ex
              rw [hy1] at ay by' ey
              rw [hy2] at sy by' ey
              rw [hy3] at dy ey
              have u1 : Go.IntKind.i64.wrap (x1 - x2) = x3 := by rw [← ex]; exact IntWalk.i64_in _ (by omega)
              have u2 : Go.IntKind.i64.wrap (y1 - y2) = y3 := by rw [← ey]; exact IntWalk.i64_in _ (by omega)
              have u3 : (x3 != x3) = false := by simp
              have u4 : (y3 != y3) = false := by simp
              have u5 : Go.IntKind.i64.wrap 4 = 4 := by decide
              have u6 : Go.IntKind.i64.wrap 7 = 7 := by decide
              clear bx by' ex ey hx1 hx2 hx3 hy1 hy2 hy3
              go_upto_region 30 with fail
              go_quiet (fail)
              go_wp2_with fail
              go_roundw
              case rel => exact ⟨1, by omega, by go_num, Lib.hid (S.out.down (below_drewN (Below.refl _ _) _))⟩
              case measure => simp [intOf]
            · have ax := S.out.a.cell (i := 5) (by decide)
              have sx := S.out.l.s.cell (i := 5) (by decide)
              have dx := S.out.d.cell (i := 5) (by decide)
              have ay := S.out.a.cell (i := 8) (by decide)
              have sy := S.out.l.s.cell (i := 8) (by decide)
              have dy := S.out.d.cell (i := 8) (by decide)
              have bx := TL.out.bd 5 (by decide)
              have by' := TL.out.bd 8 (by decide)
              have ex := TL.out.dv 5 (by decide) (by decide)
              have ey := TL.out.dv 8 (by decide) (by decide)
              obtain ⟨x1, hx1⟩ : ∃ x, A1 5 = x := ⟨_, rfl⟩
              obtain ⟨x2, hx2⟩ : ∃ x, KE 5 = x := ⟨_, rfl⟩
              obtain ⟨x3, hx3⟩ : ∃ x, D1 5 = x := ⟨_, rfl⟩
              obtain ⟨y1, hy1⟩ : ∃ x, A1 8 = x := ⟨_, rfl⟩
              obtain ⟨y2, hy2⟩ : ∃ x, KE 8 = x := ⟨_, rfl⟩
              obtain ⟨y3, hy3⟩ : ∃ x, D1 8 = x := ⟨_, rfl⟩
              rw [hx1] at ax bx ex
              rw [hx2] at sx bx ex
              rw [hx3] at dx ex
              rw [hy1] at ay by' ey
              rw [hy2] at sy by' ey
              rw [hy3] at dy ey
              have u1 : Go.IntKind.i64.wrap (x1 - x2) = x3 := by rw [← ex]; exact IntWalk.i64_in _ (by omega)
              have u2 : Go.IntKind.i64.wrap (y1 - y2) = y3 := by rw [← ey]; exact IntWalk.i64_in _ (by omega)
              have u3 : (x3 != x3) = false := by simp
              have u4 : (y3 != y3) = false := by simp
              have u5 : Go.IntKind.i64.wrap 5 = 5 := by decide
              have u6 : Go.IntKind.i64.wrap 8 = 8 := by decide
              clear bx by' ex ey hx1 hx2 hx3 hy1 hy2 hy3
              go_upto_region 30 with fail
              go_quiet (fail)
              go_wp2_with fail
              go_roundw
              case rel => exact ⟨2, by omega, by go_num, Lib.hid (S.out.down (below_drewN (Below.refl _ _) _))⟩
              case measure => simp [intOf]
            · have ax := S.out.a.cell (i := 6) (by decide)
              have sx := S.out.l.s.cell (i := 6) (by decide)
              have dx := S.out.d.cell (i := 6) (by decide)
              have ay := S.out.a.cell (i := 9) (by decide)
              have sy := S.out.l.s.cell (i := 9) (by decide)
              have dy := S.out.d.cell (i := 9) (by decide)
              have bx := TL.out.bd 6 (by decide)
              have by' := TL.out.bd 9 (by decide)
              have ex := TL.out.dv 6 (by decide) (by decide)
              have ey := TL.out.dv 9 (by decide) (by decide)
              obtain ⟨x1, hx1⟩ : ∃ x, A1 6 = x := ⟨_, rfl⟩
              obtain ⟨x2, hx2⟩ : ∃ x, KE 6 = x := ⟨_, rfl⟩
              obtain ⟨x3, hx3⟩ : ∃ x, D1 6 = x := ⟨_, rfl⟩
              obtain ⟨y1, hy1⟩ : ∃ x, A1 9 = x := ⟨_, rfl⟩
              obtain ⟨y2, hy2⟩ : ∃ x, KE 9 = x := ⟨_, rfl⟩
              obtain ⟨y3, hy3⟩ : ∃ x, D1 9 = x := ⟨_, rfl⟩
              rw [hx1] at ax bx ex
              rw [hx2] at sx bx ex
              rw [hx3] at dx ex
              rw [hy1] at ay by' ey
              rw [hy2] at sy by' ey
              rw [hy3] at dy ey
              have u1 : Go.IntKind.i64.wrap (x1 - x2) = x3 := by rw [← ex]; exact IntWalk.i64_in _ (by omega)
              have u2 : Go.IntKind.i64.wrap (y1 - y2) = y3 := by rw [← ey]; exact IntWalk.i64_in _ (by omega)
              have u3 : (x3 != x3) = false := by simp
              have u4 : (y3 != y3) = false := by simp
              have u5 : Go.IntKind.i64.wrap 6 = 6 := by decide
              have u6 : Go.IntKind.i64.wrap 9 = 9 := by decide
              clear bx by' ex ey hx1 hx2 hx3 hy1 hy2 hy3
              go_upto_region 30 with fail
              go_quiet (fail)
              go_wp2_with fail
              go_roundw
              case rel => exact ⟨3, by omega, by go_num, Lib.hid (S.out.down (below_drewN (Below.refl _ _) _))⟩
              case measure => simp [intOf]
          · obtain rfl : k = 3 := by omega
            rw [show ((3 : Nat) : Int) = (3 : Int) from rfl]
            have g2 : decide ((3 : Int) < 3) = false := by decide
            have HE := Lib.hid (eqB_refl 4 oneQ)
            go_upto_region 32 with fail
            have HS := Lib.hid (S.out.down (Below.drew (Below.refl _ _)))
            clear S
            refine wp_region_M (fun w' => Blk w' db 38 11 D1) 10 (by kernel_rfl) ?_ (fun hHeld => ?_)
            · exact HS.out.d
            refine wpAnyM_take 0 (v := ?_) rfl (by kernel_rfl) (fun _ _ _ h => h) (Or.inl ⟨by rfl, ?_⟩) (by assumption) ?_
            rotate_left
            · (intro wx hSw; (try dsimp only at hSw); go_simp; (try with_reducible rfl))
            (try simp only [Act.put, nA, nB, nC])
            refine wpAnyM_take 1 (v := ?_) rfl (by kernel_rfl) (fun _ _ _ h => h) (Or.inl ⟨by rfl, ?_⟩) (by assumption) ?_
            rotate_left
            · (intro wx hSw; (try dsimp only at hSw); go_simp; (try rw [HM.out]); (try with_reducible rfl))
            (try simp only [Act.put, nA, nB, nC])
            refine wpAnyM_take 2 (v := ?_) rfl (by kernel_rfl) (fun _ _ _ h => h) (Or.inl ⟨by rfl, ?_⟩) (by assumption) ?_
            rotate_left
            · (intro wx hSw; (try dsimp only at hSw); go_simp; (try with_reducible rfl))
            (try simp only [Act.put, nA, nB, nC])
            refine wpAnyM_take 3 (v := ?_) rfl (by kernel_rfl) (fun _ _ _ h => h) (Or.inl ⟨by rfl, ?_⟩) (by assumption) ?_
            rotate_left
            · (intro wx hSw; (try dsimp only at hSw); go_simp; (try with_reducible rfl))
            (try simp only [Act.put, nA, nB, nC])
            first | (refine wpAnyM_take 4 (v := ?_) rfl (by kernel_rfl) (fun _ _ _ h => h) (Or.inl ⟨by rfl, ?_⟩) (by assumption) ?_; rotate_left; focus ((intro wx hSw; (try dsimp only at hSw); go_simp; (try with_reducible rfl)))) | (refine wpAnyM_take 4 rfl (by kernel_rfl) (fun _ _ _ h => h) (Or.inr ⟨by rfl, rfl⟩) (by assumption) ?_)
            (try simp only [Act.put, nA, nB, nC])
            first | (refine wpAnyM_take 5 (v := ?_) rfl (by kernel_rfl) (fun _ _ _ h => h) (Or.inl ⟨by rfl, ?_⟩) (by assumption) ?_; rotate_left; focus ((intro wx hSw; (try dsimp only at hSw); go_simp; (try with_reducible rfl)))) | (refine wpAnyM_take 5 rfl (by kernel_rfl) (fun _ _ _ h => h) (Or.inr ⟨by rfl, rfl⟩) (by assumption) ?_)
            (try simp only [Act.put, nA, nB, nC])
            first | (refine wpAnyM_take 6 (v := ?_) rfl (by kernel_rfl) (fun _ _ _ h => h) (Or.inl ⟨by rfl, ?_⟩) (by assumption) ?_; rotate_left; focus ((intro wx hSw; refine Eq.trans (run_load_sub 32 (.tmp 154) (by rfl) db 0 4 (by rfl) hSw (by decide) _ Try.underlying32 rfl iqt) ?_; rw [TN.out]))) | (refine wpAnyM_take 6 rfl (by kernel_rfl) (fun _ _ _ h => h) (Or.inr ⟨by rfl, rfl⟩) (by assumption) ?_)
            (try simp only [Act.put, nA, nB, nC])
            refine wpAnyM_oneS 7 rfl (by kernel_rfl) (fun K hK => ?_)
            go_simp
            first | ((refine (qone_any _).mono ?_); rintro e z1 ⟨rfl, hb⟩; have HU := Lib.hid (HS.out.down hb); clear HS hb; have HS := HU; clear HU) | skip
            (try dsimp only)
            (try simp only [Act.put, nA, nB, nC])
            clear hHeld
            refine hK.out _ _ ?_ (fun hHeld => ?_)
            · exact HS.out.d
            clear hK K
            (try simp only [Act.put, nA, nB, nC])
            first | (refine wpAnyM_take 8 (v := ?_) rfl (by kernel_rfl) (fun _ _ _ h => h) (Or.inl ⟨by rfl, ?_⟩) (by assumption) ?_; rotate_left; focus ((intro wx hSw; refine Eq.trans (run_op_eqlVec Try.underlying32 (by kernel_rfl) (.tmp 155) (.tmp 156) (by rfl) (by rfl) (by rfl) HE.out) ?_; with_reducible rfl))) | (refine wpAnyM_take 8 rfl (by kernel_rfl) (fun _ _ _ h => h) (Or.inr ⟨by rfl, rfl⟩) (by assumption) ?_)
            (try simp only [Act.put, nA, nB, nC])
            refine wpAnyM_take 9 (v := ?_) rfl (by kernel_rfl) (fun _ _ _ h => h) (Or.inl ⟨by rfl, ?_⟩) (by assumption) ?_
            rotate_left
            · (intro wx hSw; (try dsimp only at hSw); go_simp; (try with_reducible rfl))
            (try simp only [Act.put, nA, nB, nC])
            refine wpAnyM_one 10 rfl (by kernel_rfl) (fun K hK => ?_)
            go_simp
            refine hK.out _ _ (.inl (by kernel_rfl)) (fun _ => ?_)
            clear hK K
            (try simp only [Act.put, nA, nB, nC])
            refine wpAnyM_done (by kernel_rfl) ?_ _
            go_wp2_with fail
            go_ret
            exact ⟨rfl, HS.out.l.below⟩
  obtain rfl : m = 3 := by have := HB.out; omega
  have TL := tl_yaw HK.out t0
  obtain ⟨A1, hA1⟩ : ∃ x, ywS KE t0 = x := ⟨_, rfl⟩
  obtain ⟨Q1, hQ1⟩ : ∃ x, stepF P (rtF 0 4) (rtQ 0 (fun _ => v) 4) = x := ⟨_, rfl⟩
  obtain ⟨h1, hh1⟩ : ∃ x, (ywH h0 KE t0 || orB (rtB 0 (fun _ => v)) 4 || stepH P (rtF 0 4) (rtQ 0 (fun _ => v) 4)) = x := ⟨_, rfl⟩
  obtain ⟨D1, hD1⟩ : ∃ x, ywT t0 = x := ⟨_, rfl⟩
  have C1 := fun (x : World) (k : x.cell? ⟨bc, 0, none⟩ = some (.bool h0)) (f : x.frozen? ⟨bc, 0, none⟩ = false) => yaw_any ⟨bc, 0, none⟩ h0 KE P t0 v x k f
  rw [hA1, hQ1, hh1, hD1] at C1
  have GQ := Lib.hid (show (!condH Q1) = true by rw [← hQ1, step_good]; rfl)
  rw [hA1, hD1] at TL
  have TL := Lib.hid TL
  have K1 := Lib.hid C1
  clear C1 hA1 hQ1 hh1 hD1
  go_upto_region 10 with fail
  have P0 := S4.out.l.s
  have P9 := S4.out.l.p
  have p0 := S4.out.l.t.cell (i := 0) (by decide)
  rw [ht0] at p0
  refine wp_region_lit ?_
  refine wpList_val (v := ?_) rfl ?_ ?_
  rotate_left
  · (go_simp; (try (first | with_reducible rfl | (constructor <;> with_reducible rfl))))
  (try simp only [Act.put, nA, nB, nC])
  refine wpList_val (v := ?_) rfl ?_ ?_
  rotate_left
  · refine Eq.trans (run_load_row 27 (.tmp 5) (by rfl) (w.heap.size) (by rfl) _ _ _ _ (P0) Try.underlying27 rfl (ist.trans (by rw [arrv_size]))) ?_; with_reducible rfl
  (try simp only [Act.put, nA, nB, nC])
  refine wpList_val (v := ?_) rfl ?_ ?_
  rotate_left
  · refine Eq.trans (run_load_row 30 (.tmp 6) (by rfl) (w.heap.size + 1) (by rfl) _ _ _ _ (P9) Try.underlying30 rfl (icov.trans (by rw [arrv_size]))) ?_; with_reducible rfl
  (try simp only [Act.put, nA, nB, nC])
  refine wpList_val (v := ?_) rfl ?_ ?_
  rotate_left
  · (go_simp; (try (first | with_reducible rfl | (constructor <;> with_reducible rfl))))
  (try simp only [Act.put, nA, nB, nC])
  refine wpList_val (v := ?_) rfl ?_ ?_
  rotate_left
  · (go_simp; (try (first | with_reducible rfl | (constructor <;> with_reducible rfl))))
  (try simp only [Act.put, nA, nB, nC])
  refine wpList_val (v := ?_) rfl ?_ ?_
  rotate_left
  · (go_simp; (try (first | with_reducible rfl | (constructor <;> with_reducible rfl))))
  (try simp only [Act.put, nA, nB, nC])
  refine wpList_step (fun K hK => ?_)
  go_simp
  (refine (K1.out _ S4.out.l.fl.cell S4.out.l.fl.free).mono ?_); rintro e v0 ⟨rfl, hu⟩; have HU := Lib.hid (S4.out.upd' hu); clear S4 hu P0 P9 p0; have S4 := HU; clear HU; have N := Lib.hid (tl_three S4.out A1 Q1 D1)
  (try dsimp only)
  (try simp only [Act.put, nA, nB, nC])
  refine hK _ _ ?_
  clear hK K
  refine wpList_val (v := ?_) rfl ?_ ?_
  rotate_left
  · (go_simp; (try (first | with_reducible rfl | (constructor <;> with_reducible rfl))))
  (try simp only [Act.put, nA, nB, nC])
  refine wpList_val (v := ?_) rfl ?_ ?_
  rotate_left
  · (go_simp; (try (first | with_reducible rfl | (constructor <;> with_reducible rfl))))
  (try simp only [Act.put, nA, nB, nC])
  refine wpList_val (v := ?_) rfl ?_ ?_
  rotate_left
  · (go_simp; (try (first | with_reducible rfl | (constructor <;> with_reducible rfl))))
  (try simp only [Act.put, nA, nB, nC])
  refine wpList_val (v := ?_) rfl ?_ ?_
  rotate_left
  · (go_simp; (try (first | with_reducible rfl | (constructor <;> with_reducible rfl))))
  (try simp only [Act.put, nA, nB, nC])
  refine wpList_done (w' := ?_) rfl ?_ ?_
  rotate_left
  · (refine Eq.trans (run_store_row 27 (.tmp 12) (.tmp 39) (by rfl) ab (by rfl) (by rfl) S4.out.a (ist.trans rfl)) ?_; with_reducible rfl)
  (try simp only [Act.put, nA, nB, nC])
  refine wpList_done (w' := ?_) rfl ?_ ?_
  rotate_left
  · (refine Eq.trans (run_store_row 30 (.tmp 13) (.tmp 40) (by rfl) qb (by rfl) (by rfl) N.out.1 (icov.trans rfl)) ?_; with_reducible rfl)
  (try simp only [Act.put, nA, nB, nC])
  refine wpList_done (w' := ?_) rfl ?_ ?_
  rotate_left
  · (refine Eq.trans (run_store_row 38 (.tmp 14) (.tmp 41) (by rfl) db (by rfl) (by rfl) N.out.2.1 (itd.trans rfl)) ?_; with_reducible rfl)
  (try simp only [Act.put, nA, nB, nC])
  refine wpList_nil ?_
  have S5 := Lib.hid N.out.2.2
  generalize ((v0.setRow ab (arrv 24 A1)).setRow qb (arrv 300 Q1)).setRow db (arrv 11 D1) = V0 at *
  clear S4 N K1
  have GA := Lib.hid TL.out.g
  go_upto_region 20 with fail
  have P0 := S5.out.a
  refine wp_region_lit ?_
  refine wpList_val (v := ?_) rfl ?_ ?_
  rotate_left
  · refine Eq.trans (run_load_row 27 (.tmp 12) (by rfl) (ab) (by rfl) _ _ _ _ (P0) Try.underlying27 rfl (ist.trans (by rw [arrv_size]))) ?_; with_reducible rfl
  (try simp only [Act.put, nA, nB, nC])
  refine wpList_step (fun K hK => ?_)
  go_simp
  (refine (sgood_any A1 _).mono ?_); (rw [GA.out]); rintro e u0 ⟨rfl, hb⟩; have S6 := Lib.hid (S5.out.down hb); clear S5 hb P0; have P9 := S6.out.q
  (try dsimp only)
  (try simp only [Act.put, nA, nB, nC])
  refine hK _ _ ?_
  clear hK K
  refine wpList_val (v := ?_) rfl ?_ ?_
  rotate_left
  · (go_simp; (try (first | with_reducible rfl | (constructor <;> with_reducible rfl))))
  (try simp only [Act.put, nA, nB, nC])
  refine wpList_val (v := ?_) rfl ?_ ?_
  rotate_left
  · (go_simp; (try (first | with_reducible rfl | (constructor <;> with_reducible rfl))))
  (try simp only [Act.put, nA, nB, nC])
  first | (refine wpList_val (v := ?_) (by rfl) ?_ ?_; rotate_left; focus (refine Eq.trans (run_load_row 30 (.tmp 13) (by rfl) (qb) (by rfl) _ _ _ _ (P9) Try.underlying30 rfl (icov.trans (by rw [arrv_size]))) ?_; with_reducible rfl)) | refine wpList_skip (by rfl) ?_
  (try simp only [Act.put, nA, nB, nC])
  refine wpList_step (fun K hK => ?_)
  go_simp
  (refine (good_any Q1 _).mono ?_); (rw [GQ.out]); rintro e u1 ⟨rfl, hb⟩; have S7 := Lib.hid (S6.out.down hb); clear S6 hb P9
  (try dsimp only)
  (try simp only [Act.put, nA, nB, nC])
  refine hK _ _ ?_
  clear hK K
  first | (refine wpList_val (v := ?_) (by rfl) ?_ ?_; rotate_left; focus ((go_simp; (try (first | with_reducible rfl | (constructor <;> with_reducible rfl)))))) | refine wpList_skip (by rfl) ?_
  (try simp only [Act.put, nA, nB, nC])
  refine wpList_val (v := ?_) rfl ?_ ?_
  rotate_left
  · (go_simp; (try (first | with_reducible rfl | (constructor <;> with_reducible rfl))))
  (try simp only [Act.put, nA, nB, nC])
  refine wpList_nil ?_
  go_wp2_with fail
  go_loopw [17] (fun i wr => ∃ k : Nat, k ≤ 24 ∧ i = .int .i64 k ∧ Hid (TlR bc ab qb db h1 KE P T A1 Q1 D1 w wr)) (fun i _ => 24 - (intOf i).toNat)
  case atStart => exact ⟨0, by omega, rfl, S7⟩
  case round =>
    obtain ⟨k, hk, rfl, R⟩ := hrel
    clear S7
    by_cases hlt : k < 24
    · have g1 : decide ((k : Int) < 24) = true := by simp; omega
      have j0 : (0 : Int) ≤ (k : Int) := Int.natCast_nonneg _
      have j1 : (k : Int) < 24 := by omega
      have w1 : Go.IntKind.i64.wrap (0 + 4) = 4 := by decide
      have w2 : Go.IntKind.i64.wrap 4 = 4 := by decide
      have f1 : decide ((k : Int) < 0) = false := by simp
      by_cases c2 : 4 ≤ k
      · have f2 : decide (4 ≤ (k : Int)) = true := by simp; omega
        have ra := R.out.a.cell hlt
        have rk := R.out.l.s.cell hlt
        rw [TL.out.eq k hlt (.inr c2)] at ra
        obtain ⟨V, hV⟩ : ∃ x, KE k = x := ⟨_, rfl⟩
        rw [hV] at ra rk
        have q1 : (V != V) = false := by simp
        clear hV
        go_upto_region 25 with fail
        go_quiet (fail)
        go_wp2_with fail
        go_roundw
        case rel => exact ⟨k + 1, by omega, by go_num, Lib.hid (R.out.down (below_drewN (Below.refl _ _) _))⟩
        case measure => simp [intOf]; omega
      · have f2 : decide (4 ≤ (k : Int)) = false := by simp; omega
        go_upto_region 25 with fail
        go_quiet (fail)
        go_wp2_with fail
        go_roundw
        case rel => exact ⟨k + 1, by omega, by go_num, Lib.hid (R.out.down (below_drewN (Below.refl _ _) _))⟩
        case measure => simp [intOf]; omega
    · obtain rfl : k = 24 := by omega
      rw [show ((24 : Nat) : Int) = (24 : Int) from rfl]
      have g1 : decide ((24 : Int) < 24) = false := by decide
      go_wp2_with fail
      go_loopw [18] (fun i wr => ∃ k : Nat, k ≤ 3 ∧ i = .int .i64 k ∧ Hid (TlR bc ab qb db h1 KE P T A1 Q1 D1 w wr)) (fun i _ => 3 - (intOf i).toNat)
      case atStart => exact ⟨0, by omega, rfl, R⟩
      case round =>
        obtain ⟨k, hk, rfl, S⟩ := hrel
        clear R
        by_cases hlt : k < 3
        · obtain rfl | rfl | rfl : k = 0 ∨ k = 1 ∨ k = 2 := by omega
          · have ax := S.out.a.cell (i := 4) (by decide)
            have sx := S.out.l.s.cell (i := 4) (by decide)
            have dx := S.out.d.cell (i := 4) (by decide)
            have ay := S.out.a.cell (i := 7) (by decide)
            have sy := S.out.l.s.cell (i := 7) (by decide)
            have dy := S.out.d.cell (i := 7) (by decide)
            have bx := TL.out.bd 4 (by decide)
            have by' := TL.out.bd 7 (by decide)
            have ex := TL.out.dv 4 (by decide) (by decide)
            have ey := TL.out.dv 7 (by decide) (by decide)
            obtain ⟨x1, hx1⟩ : ∃ x, A1 4 = x := ⟨_, rfl⟩
            obtain ⟨x2, hx2⟩ : ∃ x, KE 4 = x := ⟨_, rfl⟩
            obtain ⟨x3, hx3⟩ : ∃ x, D1 4 = x := ⟨_, rfl⟩
            obtain ⟨y1, hy1⟩ : ∃ x, A1 7 = x := ⟨_, rfl⟩
            obtain ⟨y2, hy2⟩ : ∃ x, KE 7 = x := ⟨_, rfl⟩
            obtain ⟨y3, hy3⟩ : ∃ x, D1 7 = x := ⟨_, rfl⟩
            rw [hx1] at ax bx ex
            rw [hx2] at sx bx ex
            rw [hx3] at dx ex
            rw [hy1] at ay by' ey
            rw [hy2] at sy by' ey
            rw [hy3] at dy ey
            have u1 : Go.IntKind.i64.wrap (x1 - x2) = x3 := by rw [← ex]; exact IntWalk.i64_in _ (by omega)
            have u2 : Go.IntKind.i64.wrap (y1 - y2) = y3 := by rw [← ey]; exact IntWalk.i64_in _ (by omega)
            have u3 : (x3 != x3) = false := by simp
            have u4 : (y3 != y3) = false := by simp
            have u5 : Go.IntKind.i64.wrap 4 = 4 := by decide
            have u6 : Go.IntKind.i64.wrap 7 = 7 := by decide
            clear bx by' ex ey hx1 hx2 hx3 hy1 hy2 hy3
            go_upto_region 30 with fail
            go_quiet (fail)
            go_wp2_with fail
            go_roundw
            case rel => exact ⟨1, by omega, by go_num, Lib.hid (S.out.down (below_drewN (Below.refl _ _) _))⟩
            case measure => simp [intOf]
          · have ax := S.out.a.cell (i := 5) (by decide)
            have sx := S.out.l.s.cell (i := 5) (by decide)
            have dx := S.out.d.cell (i := 5) (by decide)
            have ay := S.out.a.cell (i := 8) (by decide)
            have sy := S.out.l.s.cell (i := 8) (by decide)
            have dy := S.out.d.cell (i := 8) (by decide)
            have bx := TL.out.bd 5 (by decide)
            have by' := TL.out.bd 8 (by decide)
            have ex := TL.out.dv 5 (by decide) (by decide)
            have ey := TL.out.dv 8 (by decide) (by decide)
            obtain ⟨x1, hx1⟩ : ∃ x, A1 5 = x := ⟨_, rfl⟩
            obtain ⟨x2, hx2⟩ : ∃ x, KE 5 = x := ⟨_, rfl⟩
            obtain ⟨x3, hx3⟩ : ∃ x, D1 5 = x := ⟨_, rfl⟩
            obtain ⟨y1, hy1⟩ : ∃ x, A1 8 = x := ⟨_, rfl⟩
            obtain ⟨y2, hy2⟩ : ∃ x, KE 8 = x := ⟨_, rfl⟩
            obtain ⟨y3, hy3⟩ : ∃ x, D1 8 = x := ⟨_, rfl⟩
            rw [hx1] at ax bx ex
            rw [hx2] at sx bx ex
            rw [hx3] at dx ex
            rw [hy1] at ay by' ey
            rw [hy2] at sy by' ey
            rw [hy3] at dy ey
            have u1 : Go.IntKind.i64.wrap (x1 - x2) = x3 := by rw [← ex]; exact IntWalk.i64_in _ (by omega)
            have u2 : Go.IntKind.i64.wrap (y1 - y2) = y3 := by rw [← ey]; exact IntWalk.i64_in _ (by omega)
            have u3 : (x3 != x3) = false := by simp
            have u4 : (y3 != y3) = false := by simp
            have u5 : Go.IntKind.i64.wrap 5 = 5 := by decide
            have u6 : Go.IntKind.i64.wrap 8 = 8 := by decide
            clear bx by' ex ey hx1 hx2 hx3 hy1 hy2 hy3
            go_upto_region 30 with fail
            go_quiet (fail)
            go_wp2_with fail
            go_roundw
            case rel => exact ⟨2, by omega, by go_num, Lib.hid (S.out.down (below_drewN (Below.refl _ _) _))⟩
            case measure => simp [intOf]
          · have ax := S.out.a.cell (i := 6) (by decide)
            have sx := S.out.l.s.cell (i := 6) (by decide)
            have dx := S.out.d.cell (i := 6) (by decide)
            have ay := S.out.a.cell (i := 9) (by decide)
            have sy := S.out.l.s.cell (i := 9) (by decide)
            have dy := S.out.d.cell (i := 9) (by decide)
            have bx := TL.out.bd 6 (by decide)
            have by' := TL.out.bd 9 (by decide)
            have ex := TL.out.dv 6 (by decide) (by decide)
            have ey := TL.out.dv 9 (by decide) (by decide)
            obtain ⟨x1, hx1⟩ : ∃ x, A1 6 = x := ⟨_, rfl⟩
            obtain ⟨x2, hx2⟩ : ∃ x, KE 6 = x := ⟨_, rfl⟩
            obtain ⟨x3, hx3⟩ : ∃ x, D1 6 = x := ⟨_, rfl⟩
            obtain ⟨y1, hy1⟩ : ∃ x, A1 9 = x := ⟨_, rfl⟩
            obtain ⟨y2, hy2⟩ : ∃ x, KE 9 = x := ⟨_, rfl⟩
            obtain ⟨y3, hy3⟩ : ∃ x, D1 9 = x := ⟨_, rfl⟩
            rw [hx1] at ax bx ex
            rw [hx2] at sx bx ex
            rw [hx3] at dx ex
            rw [hy1] at ay by' ey
            rw [hy2] at sy by' ey
            rw [hy3] at dy ey
            have u1 : Go.IntKind.i64.wrap (x1 - x2) = x3 := by rw [← ex]; exact IntWalk.i64_in _ (by omega)
            have u2 : Go.IntKind.i64.wrap (y1 - y2) = y3 := by rw [← ey]; exact IntWalk.i64_in _ (by omega)
            have u3 : (x3 != x3) = false := by simp
            have u4 : (y3 != y3) = false := by simp
            have u5 : Go.IntKind.i64.wrap 6 = 6 := by decide
            have u6 : Go.IntKind.i64.wrap 9 = 9 := by decide
            clear bx by' ex ey hx1 hx2 hx3 hy1 hy2 hy3
            go_upto_region 30 with fail
            go_quiet (fail)
            go_wp2_with fail
            go_roundw
            case rel => exact ⟨3, by omega, by go_num, Lib.hid (S.out.down (below_drewN (Below.refl _ _) _))⟩
            case measure => simp [intOf]
        · obtain rfl : k = 3 := by omega
          rw [show ((3 : Nat) : Int) = (3 : Int) from rfl]
          have g2 : decide ((3 : Int) < 3) = false := by decide
          have HE := Lib.hid (eqB_refl 4 oneQ)
          go_upto_region 32 with fail
          have HS := Lib.hid (S.out.down (Below.drew (Below.refl _ _)))
          clear S
          refine wp_region_M (fun w' => Blk w' db 38 11 D1) 10 (by kernel_rfl) ?_ (fun hHeld => ?_)
          · exact HS.out.d
          refine wpAnyM_take 0 (v := ?_) rfl (by kernel_rfl) (fun _ _ _ h => h) (Or.inl ⟨by rfl, ?_⟩) (by assumption) ?_
          rotate_left
          · (intro wx hSw; (try dsimp only at hSw); go_simp; (try with_reducible rfl))
          (try simp only [Act.put, nA, nB, nC])
          refine wpAnyM_take 1 (v := ?_) rfl (by kernel_rfl) (fun _ _ _ h => h) (Or.inl ⟨by rfl, ?_⟩) (by assumption) ?_
          rotate_left
          · (intro wx hSw; (try dsimp only at hSw); go_simp; (try rw [HM.out]); (try with_reducible rfl))
          (try simp only [Act.put, nA, nB, nC])
          refine wpAnyM_take 2 (v := ?_) rfl (by kernel_rfl) (fun _ _ _ h => h) (Or.inl ⟨by rfl, ?_⟩) (by assumption) ?_
          rotate_left
          · (intro wx hSw; (try dsimp only at hSw); go_simp; (try with_reducible rfl))
          (try simp only [Act.put, nA, nB, nC])
          refine wpAnyM_take 3 (v := ?_) rfl (by kernel_rfl) (fun _ _ _ h => h) (Or.inl ⟨by rfl, ?_⟩) (by assumption) ?_
          rotate_left
          · (intro wx hSw; (try dsimp only at hSw); go_simp; (try with_reducible rfl))
          (try simp only [Act.put, nA, nB, nC])
          first | (refine wpAnyM_take 4 (v := ?_) rfl (by kernel_rfl) (fun _ _ _ h => h) (Or.inl ⟨by rfl, ?_⟩) (by assumption) ?_; rotate_left; focus ((intro wx hSw; (try dsimp only at hSw); go_simp; (try with_reducible rfl)))) | (refine wpAnyM_take 4 rfl (by kernel_rfl) (fun _ _ _ h => h) (Or.inr ⟨by rfl, rfl⟩) (by assumption) ?_)
          (try simp only [Act.put, nA, nB, nC])
          first | (refine wpAnyM_take 5 (v := ?_) rfl (by kernel_rfl) (fun _ _ _ h => h) (Or.inl ⟨by rfl, ?_⟩) (by assumption) ?_; rotate_left; focus ((intro wx hSw; (try dsimp only at hSw); go_simp; (try with_reducible rfl)))) | (refine wpAnyM_take 5 rfl (by kernel_rfl) (fun _ _ _ h => h) (Or.inr ⟨by rfl, rfl⟩) (by assumption) ?_)
          (try simp only [Act.put, nA, nB, nC])
          first | (refine wpAnyM_take 6 (v := ?_) rfl (by kernel_rfl) (fun _ _ _ h => h) (Or.inl ⟨by rfl, ?_⟩) (by assumption) ?_; rotate_left; focus ((intro wx hSw; refine Eq.trans (run_load_sub 32 (.tmp 154) (by rfl) db 0 4 (by rfl) hSw (by decide) _ Try.underlying32 rfl iqt) ?_; rw [TN.out]))) | (refine wpAnyM_take 6 rfl (by kernel_rfl) (fun _ _ _ h => h) (Or.inr ⟨by rfl, rfl⟩) (by assumption) ?_)
          (try simp only [Act.put, nA, nB, nC])
          refine wpAnyM_oneS 7 rfl (by kernel_rfl) (fun K hK => ?_)
          go_simp
          first | ((refine (qone_any _).mono ?_); rintro e z1 ⟨rfl, hb⟩; have HU := Lib.hid (HS.out.down hb); clear HS hb; have HS := HU; clear HU) | skip
          (try dsimp only)
          (try simp only [Act.put, nA, nB, nC])
          clear hHeld
          refine hK.out _ _ ?_ (fun hHeld => ?_)
          · exact HS.out.d
          clear hK K
          (try simp only [Act.put, nA, nB, nC])
          first | (refine wpAnyM_take 8 (v := ?_) rfl (by kernel_rfl) (fun _ _ _ h => h) (Or.inl ⟨by rfl, ?_⟩) (by assumption) ?_; rotate_left; focus ((intro wx hSw; refine Eq.trans (run_op_eqlVec Try.underlying32 (by kernel_rfl) (.tmp 155) (.tmp 156) (by rfl) (by rfl) (by rfl) HE.out) ?_; with_reducible rfl))) | (refine wpAnyM_take 8 rfl (by kernel_rfl) (fun _ _ _ h => h) (Or.inr ⟨by rfl, rfl⟩) (by assumption) ?_)
          (try simp only [Act.put, nA, nB, nC])
          refine wpAnyM_take 9 (v := ?_) rfl (by kernel_rfl) (fun _ _ _ h => h) (Or.inl ⟨by rfl, ?_⟩) (by assumption) ?_
          rotate_left
          · (intro wx hSw; (try dsimp only at hSw); go_simp; (try with_reducible rfl))
          (try simp only [Act.put, nA, nB, nC])
          refine wpAnyM_one 10 rfl (by kernel_rfl) (fun K hK => ?_)
          go_simp
          refine hK.out _ _ (.inl (by kernel_rfl)) (fun _ => ?_)
          clear hK K
          (try simp only [Act.put, nA, nB, nC])
          refine wpAnyM_done (by kernel_rfl) ?_ _
          go_wp2_with fail
          go_ret
          exact ⟨rfl, HS.out.l.below⟩
end Go.Proofs.Ytgfklheepkgedaa
