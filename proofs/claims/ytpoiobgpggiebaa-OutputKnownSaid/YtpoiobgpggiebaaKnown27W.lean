/- The walk of OutputKnown. -/
import Derived.Test.YtpoiobgpggiebaaQ22
namespace Go.Proofs.Ytpoiobgpggiebaa
open Go.RowKit
open Go
set_option maxRecDepth 100000
section
variable {bc pb : Nat} {v : Value} {E : List Lx} {S : List Sx} {w wr w' : World}
theorem k27_start {v' : Value} {z g : Int} {h h' : Bool} {L : Nat → Nat → Int} {T : Nat → Int} {t : Int} (s : FiR bc h pb z g v 0 L E S w wr) (p : PdR w' pb z g v' 1 (fun _ => ofF T t)) (hc : w'.cell? ⟨bc, 0, none⟩ = some (.bool h')) (hf : w'.frozen? ⟨bc, 0, none⟩ = false) (k : Chg (fun k => k = pb ∨ k = bc) wr w') {gb : Nat} (hv : v'.ownBlock = some gb) (hg : wr.heap.size ≤ gb) :
    FiR bc h' pb z g v' 1 (fun _ => ofF T t) E S w w' :=
  s.chg k (fun i y => y.elim .inl (fun a => .inr (.inl a))) hc hf p (fun i hi => by rw [hv] at hi; injection hi with hi; subst hi; exact .inl hg)
end
def i27 : Nat → Int := fun i => if i = 0 then 5 else if i = 1 then 1 else 0
set_option maxHeartbeats 16000000 in
theorem known27_walk (w : World) : Calls Try.prog 3 #[] w fun e w' => e = .returned (.bool true) ∧ Below w.heap.size w w' := by
  go_enter Try.func3, Try.ntmps3
  go_upto_region 3 with (go_at_call 9; (refine (awake27_any _).mono ?_); rintro e w1 ⟨rfl, hb1⟩)
  have B1 := Lib.hid hb1
  clear hb1
  go_upto_region 4 with (go_at_call 10; (refine (newp_bad 0 1 _ (.inl (by decide))).mono ?_); rintro e w2 ⟨rfl, hb⟩; have B2 := Lib.hid (Below.after B1.out hb); clear hb B1)
  go_upto_region 5 with (go_at_call 10; (refine (newp_bad 1 1073741825 _ (.inr (.inr (.inr (by decide))))).mono ?_); rintro e w3 ⟨rfl, hb⟩; have B3 := Lib.hid (Below.after B2.out hb); clear hb B2)
  go_upto_region 6 with (go_at_call 10; (refine (newp_good 1 1 _ (by decide) (by decide) (by decide) (by decide)).mono ?_); rintro e w4 ⟨rfl, hb, hp⟩; have B4 := Lib.hid (Below.after B3.out hb); have P4 := Lib.hid hp; have Z4 := B3.out.size; clear hb hp B3)
  have S0 := Lib.hid (fi_flag B4.out P4.out Z4 (fun k hk => by simp [Value.ownBlock] at hk))
  obtain ⟨pb, hpb⟩ : ∃ x, w3.heap.size = x := ⟨_, rfl⟩
  rw [hpb] at S0 ⊢
  clear hpb B4 P4 Z4
  go_upto_region 7 with fail
  generalize w4.alloc (.cells #[.bool false] 29) = W0 at *
  obtain ⟨bc, hbc⟩ : ∃ x, w4.heap.size = x := ⟨_, rfl⟩
  rw [hbc] at S0 ⊢
  clear hbc
  refine wp_region_lit ?_
  refine wpList_val (v := ?_) rfl ?_ ?_
  rotate_left
  · (go_simp; (try (first | with_reducible rfl | (constructor <;> with_reducible rfl))))
  (try simp only [Act.put, nA, nB, nC])
  refine wpList_val (v := ?_) rfl ?_ ?_
  rotate_left
  · (go_simp; (try (first | with_reducible rfl | (constructor <;> with_reducible rfl))))
  (try simp only [Act.put, nA, nB, nC])
  refine wpList_val (v := ?_) rfl ?_ ?_
  rotate_left
  · (refine Eq.trans (run_build_st0o (by rfl)) ?_; with_reducible rfl)
  (try simp only [Act.put, nA, nB, nC])
  refine wpList_val (v := ?_) rfl ?_ ?_
  rotate_left
  · (refine Eq.trans (run_build_imu2 (.const (.int .i64 5)) (.const (.int .i64 1)) (by rfl) (by rfl) (by rfl)) ?_; with_reducible rfl)
  (try simp only [Act.put, nA, nB, nC])
  refine wpList_step (fun K hK => ?_)
  go_simp
  (refine (push_none ⟨bc, 0, none⟩ pb 1 1 (fun _ _ => 0) none 0 (fun _ => 0) i27 _ S0.out.pd).mono ?_); rintro e w5 ⟨rfl, hb⟩; have S1 := Lib.hid (S0.out.down hb); clear hb S0
  (try dsimp only)
  (try simp only [Act.put, nA, nB, nC])
  refine hK _ _ ?_
  clear hK K
  refine wpList_val (v := ?_) rfl ?_ ?_
  rotate_left
  · (go_simp; (try (first | with_reducible rfl | (constructor <;> with_reducible rfl))))
  (try simp only [Act.put, nA, nB, nC])
  refine wpList_nil ?_
  go_upto_region 8 with fail
  refine wp_region_lit ?_
  refine wpList_val (v := ?_) rfl ?_ ?_
  rotate_left
  · (go_simp; (try (first | with_reducible rfl | (constructor <;> with_reducible rfl))))
  (try simp only [Act.put, nA, nB, nC])
  refine wpList_val (v := ?_) rfl ?_ ?_
  rotate_left
  · (go_simp; (try (first | with_reducible rfl | (constructor <;> with_reducible rfl))))
  (try simp only [Act.put, nA, nB, nC])
  refine wpList_val (v := ?_) rfl ?_ ?_
  rotate_left
  · (refine Eq.trans (run_build_st0o (by rfl)) ?_; with_reducible rfl)
  (try simp only [Act.put, nA, nB, nC])
  refine wpList_step (fun K hK => ?_)
  go_simp
  (refine (corr_none ⟨bc, 0, none⟩ false pb 1 1 0 (fun _ _ => 0) (.slice none 0 0) (fun _ => 0) 5 _ S1.out.fc S1.out.ff S1.out.pd S1.out.ne S1.out.nv (by decide) rfl).mono ?_); rintro e w6 ⟨rfl, hr⟩; have S2 := Lib.hid (S1.out.ear hr); clear hr S1
  (try dsimp only)
  (try simp only [Act.put, nA, nB, nC])
  refine hK _ _ ?_
  clear hK K
  refine wpList_val (v := ?_) rfl ?_ ?_
  rotate_left
  · (go_simp; (try (first | with_reducible rfl | (constructor <;> with_reducible rfl))))
  (try simp only [Act.put, nA, nB, nC])
  refine wpList_nil ?_
  go_upto_region 9 with fail
  refine wp_region_lit ?_
  refine wpList_val (v := ?_) rfl ?_ ?_
  rotate_left
  · (go_simp; (try (first | with_reducible rfl | (constructor <;> with_reducible rfl))))
  (try simp only [Act.put, nA, nB, nC])
  refine wpList_val (v := ?_) rfl ?_ ?_
  rotate_left
  · (go_simp; (try (first | with_reducible rfl | (constructor <;> with_reducible rfl))))
  (try simp only [Act.put, nA, nB, nC])
  refine wpList_val (v := ?_) rfl ?_ ?_
  rotate_left
  · (refine Eq.trans (run_build_st0o (by rfl)) ?_; with_reducible rfl)
  (try simp only [Act.put, nA, nB, nC])
  refine wpList_step (fun K hK => ?_)
  go_simp
  (refine (start_out ⟨bc, 0, none⟩ false pb 1 1 0 (fun _ _ => 0) (.slice none 0 0) (fun _ => 0) 5 _ S2.out.fc S2.out.ff S2.out.pd S2.out.ne S2.out.nv).mono ?_); rintro e w7 ⟨v3, rfl, hp, hc, hf, hk, gb, hv, hg⟩; have S3 := Lib.hid (k27_start S2.out hp hc hf hk hv hg); clear hp hc hf hk hv hg S2
  (try dsimp only)
  (try simp only [Act.put, nA, nB, nC])
  refine hK _ _ ?_
  clear hK K
  refine wpList_nil ?_
  obtain ⟨H, hH⟩ : ∃ x, (false || keepH (fun _ => 0)) = x := ⟨_, rfl⟩
  rw [hH] at S3
  obtain ⟨F, hF⟩ : ∃ x, ofF (fun _ => 0) 5 = x := ⟨_, rfl⟩
  have F0 : F 0 = 5 := by rw [← hF]; rfl
  rw [hF] at S3
  have FT := Lib.hid F0
  clear hH hF F0
  go_upto_region 10 with fail
  refine wp_region_lit ?_
  refine wpList_val (v := ?_) rfl ?_ ?_
  rotate_left
  · (go_simp; (try (first | with_reducible rfl | (constructor <;> with_reducible rfl))))
  (try simp only [Act.put, nA, nB, nC])
  refine wpList_val (v := ?_) rfl ?_ ?_
  rotate_left
  · (go_simp; (try (first | with_reducible rfl | (constructor <;> with_reducible rfl))))
  (try simp only [Act.put, nA, nB, nC])
  refine wpList_val (v := ?_) rfl ?_ ?_
  rotate_left
  · (refine Eq.trans (run_build_st0o (by rfl)) ?_; with_reducible rfl)
  (try simp only [Act.put, nA, nB, nC])
  refine wpList_step (fun K hK => ?_)
  go_simp
  (refine (corr_none ⟨bc, 0, none⟩ H pb 1 1 1 (fun _ => F) v3 (fun _ => 0) 4 _ S3.out.fc S3.out.ff S3.out.pd S3.out.ne S3.out.nv (by decide) (by simp [lastK, FT.out])).mono ?_); rintro e w8 ⟨rfl, hr⟩; have S4 := Lib.hid (S3.out.ear hr); clear hr S3
  (try dsimp only)
  (try simp only [Act.put, nA, nB, nC])
  refine hK _ _ ?_
  clear hK K
  refine wpList_val (v := ?_) rfl ?_ ?_
  rotate_left
  · (go_simp; (try (first | with_reducible rfl | (constructor <;> with_reducible rfl))))
  (try simp only [Act.put, nA, nB, nC])
  refine wpList_nil ?_
  go_upto_region 11 with fail
  refine wp_region_lit ?_
  refine wpList_val (v := ?_) rfl ?_ ?_
  rotate_left
  · (go_simp; (try (first | with_reducible rfl | (constructor <;> with_reducible rfl))))
  (try simp only [Act.put, nA, nB, nC])
  refine wpList_val (v := ?_) rfl ?_ ?_
  rotate_left
  · (go_simp; (try (first | with_reducible rfl | (constructor <;> with_reducible rfl))))
  (try simp only [Act.put, nA, nB, nC])
  refine wpList_val (v := ?_) rfl ?_ ?_
  rotate_left
  · (refine Eq.trans (run_build_st0o (by rfl)) ?_; with_reducible rfl)
  (try simp only [Act.put, nA, nB, nC])
  refine wpList_val (v := ?_) rfl ?_ ?_
  rotate_left
  · (refine Eq.trans (run_build_imu2 (.const (.int .i64 5)) (.const (.int .i64 1)) (by rfl) (by rfl) (by rfl)) ?_; with_reducible rfl)
  (try simp only [Act.put, nA, nB, nC])
  refine wpList_step (fun K hK => ?_)
  go_simp
  (refine (push_bad ⟨bc, 0, none⟩ H pb 1 1 0 (fun _ => F) v3 (fun _ => 0) i27 _ S4.out.fc S4.out.ff S4.out.pd (by decide) (.inr (by show (5 : Int) ≤ F 0; rw [FT.out]; exact Int.le_refl _))).mono ?_); rintro e w9 ⟨rfl, hu⟩; have S5 := Lib.hid (S4.out.upd hu); clear hu S4
  (try dsimp only)
  (try simp only [Act.put, nA, nB, nC])
  refine hK _ _ ?_
  clear hK K
  refine wpList_val (v := ?_) rfl ?_ ?_
  rotate_left
  · (go_simp; (try (first | with_reducible rfl | (constructor <;> with_reducible rfl))))
  (try simp only [Act.put, nA, nB, nC])
  refine wpList_nil ?_
  go_upto_region 12 with fail
  refine wp_region_lit ?_
  refine wpList_val (v := ?_) rfl ?_ ?_
  rotate_left
  · (go_simp; (try (first | with_reducible rfl | (constructor <;> with_reducible rfl))))
  (try simp only [Act.put, nA, nB, nC])
  refine wpList_val (v := ?_) rfl ?_ ?_
  rotate_left
  · (go_simp; (try (first | with_reducible rfl | (constructor <;> with_reducible rfl))))
  (try simp only [Act.put, nA, nB, nC])
  refine wpList_val (v := ?_) rfl ?_ ?_
  rotate_left
  · (go_simp; (try (first | with_reducible rfl | (constructor <;> with_reducible rfl))))
  (try simp only [Act.put, nA, nB, nC])
  first | (refine wpList_val (v := ?_) (by rfl) ?_ ?_; rotate_left; focus ((go_simp; (try (first | with_reducible rfl | (constructor <;> with_reducible rfl)))))) | refine wpList_skip (by rfl) ?_
  (try simp only [Act.put, nA, nB, nC])
  first | (refine wpList_val (v := ?_) (by rfl) ?_ ?_; rotate_left; focus ((go_simp; (try (first | with_reducible rfl | (constructor <;> with_reducible rfl)))))) | refine wpList_skip (by rfl) ?_
  (try simp only [Act.put, nA, nB, nC])
  refine wpList_val (v := ?_) rfl ?_ ?_
  rotate_left
  · (go_simp; (try (first | with_reducible rfl | (constructor <;> with_reducible rfl))))
  (try simp only [Act.put, nA, nB, nC])
  refine wpList_val (v := ?_) rfl ?_ ?_
  rotate_left
  · (go_simp; (try (first | with_reducible rfl | (constructor <;> with_reducible rfl))))
  (try simp only [Act.put, nA, nB, nC])
  first | (refine wpList_val (v := ?_) (by rfl) ?_ ?_; rotate_left; focus ((go_simp; (try (first | with_reducible rfl | (constructor <;> with_reducible rfl)))))) | refine wpList_skip (by rfl) ?_
  (try simp only [Act.put, nA, nB, nC])
  first | (refine wpList_val (v := ?_) (by rfl) ?_ ?_; rotate_left; focus ((go_simp; (try (first | with_reducible rfl | (constructor <;> with_reducible rfl)))))) | refine wpList_skip (by rfl) ?_
  (try simp only [Act.put, nA, nB, nC])
  refine wpList_val (v := ?_) rfl ?_ ?_
  rotate_left
  · (go_simp; (try (first | with_reducible rfl | (constructor <;> with_reducible rfl))))
  (try simp only [Act.put, nA, nB, nC])
  refine wpList_val (v := ?_) rfl ?_ ?_
  rotate_left
  · (go_simp; (try (first | with_reducible rfl | (constructor <;> with_reducible rfl))))
  (try simp only [Act.put, nA, nB, nC])
  first | (refine wpList_val (v := ?_) (by rfl) ?_ ?_; rotate_left; focus ((go_simp; (try (first | with_reducible rfl | (constructor <;> with_reducible rfl)))))) | refine wpList_skip (by rfl) ?_
  (try simp only [Act.put, nA, nB, nC])
  first | (refine wpList_val (v := ?_) (by rfl) ?_ ?_; rotate_left; focus ((go_simp; (try (first | with_reducible rfl | (constructor <;> with_reducible rfl)))))) | refine wpList_skip (by rfl) ?_
  (try simp only [Act.put, nA, nB, nC])
  refine wpList_val (v := ?_) rfl ?_ ?_
  rotate_left
  · (go_simp; (try (first | with_reducible rfl | (constructor <;> with_reducible rfl))))
  (try simp only [Act.put, nA, nB, nC])
  refine wpList_val (v := ?_) rfl ?_ ?_
  rotate_left
  · (go_simp; (try (first | with_reducible rfl | (constructor <;> with_reducible rfl))))
  (try simp only [Act.put, nA, nB, nC])
  first | (refine wpList_val (v := ?_) (by rfl) ?_ ?_; rotate_left; focus ((go_simp; (try (first | with_reducible rfl | (constructor <;> with_reducible rfl)))))) | refine wpList_skip (by rfl) ?_
  (try simp only [Act.put, nA, nB, nC])
  first | (refine wpList_val (v := ?_) (by rfl) ?_ ?_; rotate_left; focus ((go_simp; (try (first | with_reducible rfl | (constructor <;> with_reducible rfl)))))) | refine wpList_skip (by rfl) ?_
  (try simp only [Act.put, nA, nB, nC])
  refine wpList_val (v := ?_) rfl ?_ ?_
  rotate_left
  · (go_simp; (try (first | with_reducible rfl | (constructor <;> with_reducible rfl))))
  (try simp only [Act.put, nA, nB, nC])
  refine wpList_val (v := ?_) rfl ?_ ?_
  rotate_left
  · (go_simp; (try (first | with_reducible rfl | (constructor <;> with_reducible rfl))))
  (try simp only [Act.put, nA, nB, nC])
  first | (refine wpList_val (v := ?_) (by rfl) ?_ ?_; rotate_left; focus ((go_simp; (try (first | with_reducible rfl | (constructor <;> with_reducible rfl)))))) | refine wpList_skip (by rfl) ?_
  (try simp only [Act.put, nA, nB, nC])
  first | (refine wpList_val (v := ?_) (by rfl) ?_ ?_; rotate_left; focus ((go_simp; (try (first | with_reducible rfl | (constructor <;> with_reducible rfl)))))) | refine wpList_skip (by rfl) ?_
  (try simp only [Act.put, nA, nB, nC])
  refine wpList_val (v := ?_) rfl ?_ ?_
  rotate_left
  · (go_simp; (try (first | with_reducible rfl | (constructor <;> with_reducible rfl))))
  (try simp only [Act.put, nA, nB, nC])
  refine wpList_val (v := ?_) rfl ?_ ?_
  rotate_left
  · (go_simp; (try (first | with_reducible rfl | (constructor <;> with_reducible rfl))))
  (try simp only [Act.put, nA, nB, nC])
  first | (refine wpList_val (v := ?_) (by rfl) ?_ ?_; rotate_left; focus ((go_simp; (try (first | with_reducible rfl | (constructor <;> with_reducible rfl)))))) | refine wpList_skip (by rfl) ?_
  (try simp only [Act.put, nA, nB, nC])
  refine wpList_step (fun K hK => ?_)
  go_simp
  (refine (all_out pb 1 1 1 (fun _ => F) v3 _ S5.out.pd (by decide)).mono ?_); rintro e wA ⟨vm, rfl, hb, ho, gm, hv, hg⟩; obtain ⟨cm, rfl, hcm, hS⟩ := S5.out.all hb ho hv hg; have S6 := Lib.hid hS; clear hb ho hv hg hS S5
  (try dsimp only)
  (try simp only [Act.put, nA, nB, nC])
  refine hK _ _ ?_
  clear hK K
  first | (refine wpList_val (v := ?_) (by rfl) ?_ ?_; rotate_left; focus ((go_simp; (try (first | with_reducible rfl | (constructor <;> with_reducible rfl)))))) | refine wpList_skip (by rfl) ?_
  (try simp only [Act.put, nA, nB, nC])
  first | (refine wpList_val (v := ?_) (by rfl) ?_ ?_; rotate_left; focus ((go_simp; (try (first | with_reducible rfl | (constructor <;> with_reducible rfl)))))) | refine wpList_skip (by rfl) ?_
  (try simp only [Act.put, nA, nB, nC])
  refine wpList_val (v := ?_) rfl ?_ ?_
  rotate_left
  · (go_simp; (try (first | with_reducible rfl | (constructor <;> with_reducible rfl))))
  (try simp only [Act.put, nA, nB, nC])
  refine wpList_val (v := ?_) rfl ?_ ?_
  rotate_left
  · (go_simp; (try (first | with_reducible rfl | (constructor <;> with_reducible rfl))))
  (try simp only [Act.put, nA, nB, nC])
  refine wpList_nil ?_
  go_wp2_with fail
  go_ret
  exact ⟨rfl, S6.out.below⟩
end Go.Proofs.Ytpoiobgpggiebaa
