/- The walk of the law ThorntonKnown. -/
import Derived.Test.YtomcniampdpnhaaAwake
import Derived.Test.YtomcniampdpnhaaAt
import Derived.Test.YtomcniampdpnhaaMoveK
import Derived.Deep.DeepCutAuto
namespace Go.Proofs.Ytomcniampdpnhaa
open Go.RowKit
set_option maxRecDepth 100000
def knL : Nat → Int := fun _ => 17592186044416
def knF : Nat → Int := newF 2 knL
theorem knF_diag : DiagF knF := by
  constructor
  · intro x hx; unfold knF newF; rw [if_pos hx]
  · intro i hi
    unfold knF newF
    rw [if_neg (by omega)]
    by_cases h : 276 + i - 276 < 2
    · rw [if_pos h]; exact varV_bd _
    · rw [if_neg h]; decide
theorem knF_at {i : Nat} (hi : i < 2) : knF (276 + i) = 17592186044416 := by
  unfold knF newF
  rw [if_neg (by omega), if_pos (by omega)]
  exact (varV_id (a := 17592186044416) (by decide) (by decide)).1
theorem knH : newH 2 knL = false := by decide
def knS : Nat → Int := stepF knF (mvF 0 1 1073741824) (fun _ => 0)
theorem knS_at {x : Nat} (hx : x < 300) : knS x = if x = 0 then 1073741824 else knF x := (move01_step knF_diag).1 x hx
theorem knS_H : stepH knF (mvF 0 1 1073741824) (fun _ => 0) = false := (move01_step knF_diag).2
theorem knS_u : uV knS 0 1 = 1073741824 := by
  unfold uV
  rw [if_neg (by decide), if_pos (by decide), show pl 0 1 = 0 from rfl, knS_at (by decide), if_pos rfl]
theorem knS_uV {k : Nat} (hk : k < 24) : uV knS 0 k = if k = 0 ∨ k = 1 then 1073741824 else 0 := by
  unfold uV
  by_cases h0 : 0 = k
  · rw [if_pos h0, if_pos (by omega)]
  · rw [if_neg h0, if_pos (by omega)]
    have hp := pl_lt (i := 0) (j := k) (by omega) hk
    rw [knS_at (by omega)]
    by_cases h1 : k = 1
    · subst h1; rw [if_pos (show pl 0 1 = 0 from rfl), if_pos (.inr rfl)]
    · rw [if_neg (show ¬ (k = 0 ∨ k = 1) by omega)]
      have hne : pl 0 k ≠ 0 := by
        unfold pl
        have : 2 ≤ k * (k - 1) := Nat.le_trans (show 2 ≤ 2 * 1 by omega) (Nat.mul_le_mul (by omega) (by omega))
        omega
      rw [if_neg hne]
      exact knF_diag.1 _ hp
theorem knS_D {k : Nat} (hk : k < 24) : 1 ≤ knS (276 + k) ∧ knS (276 + k) ≤ 72057594037927936 := by
  rw [knS_at (by omega), if_neg (by omega)]; exact knF_diag.2 k hk
theorem knS_X {q : Nat} (hq : q < 24) : atX knS 0 0 q = if q = 0 ∨ q = 1 then 17592186044416 else 0 := by
  unfold atX
  have hD := knS_D hq
  rw [Nat.zero_add, knS_uV hq]
  by_cases h : q = 0 ∨ q = 1
  · rw [if_pos h, if_pos h, mulV_one (by omega) (by omega), knS_at (by omega), if_neg (by omega), knF_at (by omega)]
  · rw [if_neg h, if_neg h, mulV_0]
theorem knS_two : atV knS 0 0 = 35184372088832 ∧ atH knS 0 0 = false := by
  have hU : ∀ q, q < 24 → atU knS 0 0 q = if q = 0 ∨ q = 1 then 1073741824 else 0 := fun q hq => by unfold atU; rw [Nat.zero_add]; exact knS_uV hq
  have hS : dotS (atU knS 0 0) (atX knS 0 0) 24 = 1073741824 * 17592186044416 + 1073741824 * 17592186044416 := by
    rw [dotS_2 (a := 0) (b := 1) (by decide) (by decide) (by decide)]
    · rw [hU 0 (by decide), hU 1 (by decide), knS_X (by decide), knS_X (by decide)]; decide
    · intro q hq h0 h1; left; rw [hU q hq, if_neg (by omega)]
  have hB : dotB (atU knS 0 0) (atX knS 0 0) 24 = false := dotB_no fun q hq => by
    rw [hU q hq, knS_X hq]
    split <;> exact ⟨by decide, by decide⟩
  unfold atV atH dotV dotH
  rw [show max 0 0 = 0 from rfl, show 24 - 0 = 24 from rfl, hS, hB, if_neg (by decide), if_neg (by decide)]
  refine ⟨by decide, ?_⟩
  rw [orB_no]
  · decide
  · intro q hq
    have hD := knS_D hq
    unfold atB
    rw [Nat.zero_add, knS_uV hq]
    split
    · exact mulH_one (by omega) (by omega)
    · exact mulH_0 (by omega) (by omega)
theorem slc2 {w : World} {b : Nat} {t : TypeId} (x : Int) (h : w.heap[b]? = some (.cells #[.int .i64 x, .int .i64 x] t (0, 0))) : Slc w (some ⟨b, 0, none⟩) 2 (fun _ => x) := by
  intro i hi
  refine ⟨_, _, rfl, ?_⟩
  rw [cell_of_row w b _ _ _ _ h]
  obtain rfl | rfl : i = 0 ∨ i = 1 := by omega
  · rfl
  · rfl
theorem slc2_new {w0 w : World} (_h : Below w0.heap.size w0 w) (x : Int) (b : Nat) (hb : w.heap.size = b) : Slc (w.alloc (.cells #[.int .i64 x, .int .i64 x] 2)) (some ⟨b, 0, none⟩) 2 (fun _ => x) := by
  subst hb
  exact slc2 x (heap_alloc_new w _)
theorem cov_new {w0 w : World} {bc : Nat} (_h : Below w0.heap.size w0 w) (hl : bc < w.heap.size) (b : Nat) (hb : w.heap.size = b) : Blk (w.alloc (.cells Try.zeroCells25 25)) b 25 300 (fun _ => 0) ∧ bc < b := by
  subst hb
  rw [zcov]; exact ⟨Blk.new w _ _ _, hl⟩
theorem kn_end {w0 w : World} {bf bc ba T T' n n' : Nat} {f g : Nat → Int} {h : Bool} (s : Blk w bf T n f ∧ Flg w bc h ∧ Below w0.heap.size w0 w) (a : Blk w ba T' n' g ∧ bc < ba) (hw : w0.heap.size ≤ bc) (F : Nat → Int) :
    Hid (Blk (w.setRow ba (arrv n' F)) ba T' n' F ∧ Flg (w.setRow ba (arrv n' F)) bc h ∧ Below w0.heap.size w0 (w.setRow ba (arrv n' F))) :=
  Lib.hid ⟨a.1.setRow F, s.2.1.row _ (by omega), below_row s.2.2 (by omega) _⟩
theorem kn_alloc {w0 w : World} {bf bc T n : Nat} {f : Nat → Int} {h : Bool} (s : Blk w bf T n f ∧ Flg w bc h ∧ Below w0.heap.size w0 w) (o : Obj) : Blk (w.alloc o) bf T n f ∧ Flg (w.alloc o) bc h ∧ Below w0.heap.size w0 (w.alloc o) :=
  ⟨s.1.alloc o, s.2.1.alloc o, s.2.2.alloc s.2.2.size o⟩
theorem kn_upd {w0 w w' : World} {bf bc T n : Nat} {f : Nat → Int} {h h' : Bool} (s : Blk w bf T n f ∧ Flg w bc h ∧ Below w0.heap.size w0 w) (hn : bc < bf) (hw : w0.heap.size ≤ bc) (u : Upd ⟨bc, 0, none⟩ h' w w') : Blk w' bf T n f ∧ Flg w' bc h' ∧ Below w0.heap.size w0 w' :=
  ⟨s.1.upd u (by simp; omega), s.2.1.hit u, own_upd s.2.2 hw u⟩
set_option maxHeartbeats 1000000 in
theorem known_walk (w : World) : Calls Try.prog 4 #[] w fun e w' => e = .returned (.bool true) ∧ Below w.heap.size w w' := by
  go_enter Try.func4, Try.ntmps4
  go_upto_region 4 with (go_at_call 6; (refine (awake_any _).mono ?_); rintro e w1 ⟨rfl, hb1⟩; have HB1 := Lib.hid hb1; clear hb1)
  have A2 := Lib.hid (HB1.out.alloc HB1.out.size (.cells #[.bool false] 32))
  have K2 := Lib.hid (Flg.new w1 false)
  have hz1 : w.heap.size ≤ w1.heap.size := HB1.out.size
  clear HB1
  obtain ⟨w2, hw2⟩ : ∃ x, x = w1.alloc (.cells #[.bool false] 32) := ⟨_, rfl⟩
  rw [← hw2] at A2 K2 ⊢
  clear hw2
  obtain ⟨bc, hbc⟩ : ∃ bc, w1.heap.size = bc := ⟨_, rfl⟩
  rw [hbc] at K2 hz1 ⊢
  clear hbc w1
  refine wp_region_lit ?_
  refine wpList_step (fun K hK => ?_)
  go_simp
  (refine (one_any _).mono ?_); rintro e w3 ⟨rfl, hb3⟩; have HB3 := Lib.hid hb3; have R3 : Blk (w3.alloc (.cells Try.zeroCells27 27)) w3.heap.size 27 576 (fun _ => 0) := (by rw [zmat]; exact Blk.new _ _ _ _); clear hb3
  (try dsimp only)
  (try simp only [Act.put, List.setIfInBounds_toArray, List.set_cons_zero, List.set_cons_succ])
  refine hK _ _ ?_
  clear hK K
  refine wpList_act (v := ?_) (w' := ?_) rfl ?_ ?_
  rotate_left 2
  · (go_simp; (try (first | with_reducible rfl | (constructor <;> with_reducible rfl))))
  (try simp only [Act.put, List.setIfInBounds_toArray, List.set_cons_zero, List.set_cons_succ])
  refine wpList_done (w' := ?_) rfl ?_ ?_
  rotate_left
  · refine Eq.trans (run_store_row 27 (.tmp 2) (.tmp 8) (by rfl) (w3.heap.size) (by rfl) (by rfl) (R3) (imat.trans rfl)) ?_; with_reducible rfl
  (try simp only [Act.put, List.setIfInBounds_toArray, List.set_cons_zero, List.set_cons_succ])
  refine wpList_nil ?_
  go_upto_region 5 with fail
  obtain ⟨w4, hw4⟩ : ∃ x, x = ((w3.alloc (.cells Try.zeroCells27 27)).setRow w3.heap.size (arrv 576 oneF)) := ⟨_, rfl⟩
  rw [← hw4]
  have M4 := Lib.hid (Blk.made zmat oneF hw4)
  have A4 := Lib.hid (Below.after A2.out (Below.after HB3.out M4.out.2))
  have K4 := Lib.hid (K2.out.below (Below.after HB3.out M4.out.2))
  have hz4 : bc < w3.heap.size := by have := K2.out.lt; have := HB3.out.size; omega
  have hz5 : w3.heap.size < w4.heap.size := M4.out.1.lt
  have B4 := Lib.hid M4.out.1
  clear hw4 R3 HB3 M4 A2 K2
  obtain ⟨bf, hbf⟩ : ∃ x, w3.heap.size = x := ⟨_, rfl⟩
  rw [hbf] at B4 hz4 hz5 ⊢
  clear hbf w3
  have c0 := B4.out.cell (i := 1) (by omega)
  have c1 := B4.out.free 1
  go_upto_region 6 with fail
  have B5 := Lib.hid ((B4.out.set 1 1073741824).congr (g := mvF 0 1 1073741824) fun i hi => rfl)
  have K5 := Lib.hid (K4.out.other (a := ⟨bf, 1, none⟩) (by simp; omega) (.int .i64 1073741824))
  have A5 := Lib.hid (A4.out.setCell (show w.heap.size ≤ (⟨bf, 1, none⟩ : Addr).block by show w.heap.size ≤ bf; omega) (.int .i64 1073741824))
  clear c0 c1 B4 K4 A4
  obtain ⟨w5, hw5⟩ : ∃ x, x = w4.setCell ⟨bf, 1, none⟩ (.int .i64 1073741824) := ⟨_, rfl⟩
  rw [← hw5] at B5 K5 A5 ⊢
  clear hw5 hz5 w4
  have hl5 := B5.out.lt
  have Z1 := Lib.hid zcol
  have hbcf : bc < bf := hz4
  have hbw : w.heap.size ≤ bc := hz1
  have SC := Lib.hid (fun (x : World) (k1 : x.cell? ⟨bc, 0, none⟩ = some (.bool false)) (k2 : x.frozen? ⟨bc, 0, none⟩ = false) => step_any ⟨bc, 0, none⟩ false knF (mvF 0 1 1073741824) (fun _ => 0) x k1 k2)
  simp only [knS_H, show stepF knF (mvF 0 1 1073741824) (fun _ => 0) = knS from rfl, Bool.or_false] at SC
  have HS : Hid (Blk w5.drew bf 27 576 (mvF 0 1 1073741824) ∧ Flg w5.drew bc false ∧ Below w.heap.size w w5.drew) := ⟨B5.out, K5.out, Below.drew A5.out⟩
  go_cut [3] (fun s3 wx => ∃ b, s3 = .pointer (some ⟨b, 0, none⟩) ∧ Hid (Blk wx b 25 300 knS ∧ Flg wx bc false ∧ Below w.heap.size w wx))
  case first =>
    refine wp_region_M (fun w' => Blk w' bf 27 576 (mvF 0 1 1073741824)) 8 (by kernel_rfl) ?_ (fun hHeld => ?_)
    · exact HS.out.1
    refine wpAnyM_take 0 (v := ?_) rfl (by kernel_rfl) (fun _ _ _ h => h) (Or.inl ⟨by rfl, ?_⟩) (by assumption) ?_
    rotate_left
    · (intro wx hSw; (try dsimp only at hSw); go_simp; (try with_reducible rfl))
    (try simp only [Act.put, List.setIfInBounds_toArray, List.set_cons_zero, List.set_cons_succ])
    refine wpAnyM_take 1 (v := ?_) rfl (by kernel_rfl) (fun _ _ _ h => h) (Or.inl ⟨by rfl, ?_⟩) (by assumption) ?_
    rotate_left
    · (intro wx hSw; (try dsimp only at hSw); go_simp; (try with_reducible rfl))
    (try simp only [Act.put, List.setIfInBounds_toArray, List.set_cons_zero, List.set_cons_succ])
    refine wpAnyM_take 4 (v := ?_) rfl (by kernel_rfl) (fun _ _ _ h => h) (Or.inl ⟨by rfl, ?_⟩) (by assumption) ?_
    rotate_left
    · (intro wx hSw; refine Eq.trans (run_load_row 27 (.tmp 2) (by rfl) (bf) (by rfl) _ _ _ _ (hSw) Try.underlying27 rfl (imat.trans (by rw [arrv_size]))) ?_; with_reducible rfl)
    (try simp only [Act.put, List.setIfInBounds_toArray, List.set_cons_zero, List.set_cons_succ])
    refine wpAnyM_take 5 (v := ?_) rfl (by kernel_rfl) (fun _ _ _ h => h) (Or.inl ⟨by rfl, ?_⟩) (by assumption) ?_
    rotate_left
    · (intro wx hSw; go_simp; rw [Z1.out])
    (try simp only [Act.put, List.setIfInBounds_toArray, List.set_cons_zero, List.set_cons_succ])
    refine wpAnyM_twoS 2 7 rfl rfl (by kernel_rfl) (fun K hK => ?_) (fun K hK => ?_)
    · go_simp; have HL := Lib.hid (slc2_new HS.out.2.2 17592186044416 _ (by first | (simp; rfl) | rfl)); have HS2 := Lib.hid (kn_alloc HS.out (.cells #[.int .i64 17592186044416, .int .i64 17592186044416] 2)); clear HS; have HS := HS2; clear HS2; (try (have HA2 := Lib.hid (And.intro (HA.out.1.alloc (.cells #[.int .i64 17592186044416, .int .i64 17592186044416] 2)) HA.out.2); clear HA; have HA := HA2; clear HA2))
      clear hHeld
      refine hK.out _ _ ?_ (fun hHeld => ?_)
      · exact HS.out.1
      clear hK K
      (try simp only [Act.put, List.setIfInBounds_toArray, List.set_cons_zero, List.set_cons_succ])
      refine wpAnyM_twoS 3 7 rfl rfl (by kernel_rfl) (fun K hK => ?_) (fun K hK => ?_)
      · go_simp
        (refine (new_any ⟨bc, 0, none⟩ false _ 2 2 knL _ HS.out.2.1.cell HS.out.2.1.free HL.out).mono ?_); rintro e w6 ⟨rfl, hu6⟩; (rw [knH] at hu6); have HS2 := Lib.hid (kn_upd HS.out hbcf hbw hu6); clear HS; have HS := HS2; clear HS2 HL; (try (have HA2 := Lib.hid (And.intro (HA.out.1.upd hu6 (by have := HA.out.2; simp; omega)) HA.out.2); clear HA; have HA := HA2; clear HA2)); clear hu6
        (try dsimp only)
        (try simp only [Act.put, List.setIfInBounds_toArray, List.set_cons_zero, List.set_cons_succ])
        clear hHeld
        refine hK.out _ _ ?_ (fun hHeld => ?_)
        · exact HS.out.1
        clear hK K
        (try simp only [Act.put, List.setIfInBounds_toArray, List.set_cons_zero, List.set_cons_succ])
        refine wpAnyM_twoS 6 7 rfl rfl (by kernel_rfl) (fun K hK => ?_) (fun K hK => ?_)
        · go_simp
          (refine (SC.out _ HS.out.2.1.cell HS.out.2.1.free).mono ?_); rintro e w7 ⟨rfl, hu7⟩; have HS2 := Lib.hid (kn_upd HS.out hbcf hbw hu7); clear HS; have HS := HS2; clear HS2; (try (have HA2 := Lib.hid (And.intro (HA.out.1.upd hu7 (by have := HA.out.2; simp; omega)) HA.out.2); clear HA; have HA := HA2; clear HA2)); clear hu7
          (try dsimp only)
          (try simp only [Act.put, List.setIfInBounds_toArray, List.set_cons_zero, List.set_cons_succ])
          clear hHeld
          refine hK.out _ _ ?_ (fun hHeld => ?_)
          · exact HS.out.1
          clear hK K
          (try simp only [Act.put, List.setIfInBounds_toArray, List.set_cons_zero, List.set_cons_succ])
          refine wpAnyM_oneS 7 rfl (by kernel_rfl) (fun K hK => ?_)
          go_simp; have HA := Lib.hid (cov_new HS.out.2.2 HS.out.2.1.lt _ (by first | (simp; rfl) | rfl)); have HS2 := Lib.hid (kn_alloc HS.out (.cells Try.zeroCells25 25)); clear HS; have HS := HS2; clear HS2; (try (have HL2 := Lib.hid (HL.out.below (Below.alloc (Below.refl _ _) (Nat.le_refl _) (.cells Try.zeroCells25 25))); clear HL; have HL := HL2; clear HL2))
          clear hHeld
          refine hK.out _ _ ?_ (fun hHeld => ?_)
          · exact HS.out.1
          clear hK K
          (try simp only [Act.put, List.setIfInBounds_toArray, List.set_cons_zero, List.set_cons_succ])
          refine wpAnyM_one 8 rfl (by kernel_rfl) (fun K hK => ?_)
          refine if_pos_of rfl ?_; refine wp_of_run (run_store_row 25 (.tmp 3) (.tmp 17) rfl _ rfl rfl HA.out.1 icov) ?_
          refine hK.out _ _ (.inl (by kernel_rfl)) (fun _ => ?_)
          clear hK K
          (try simp only [Act.put, List.setIfInBounds_toArray, List.set_cons_zero, List.set_cons_succ])
          refine wpAnyM_done (by kernel_rfl) ?_ _
          (go_wp2_with fail; go_meet; exact ⟨_, rfl, kn_end HS.out HA.out hbw knS⟩)
        · go_simp; have HA := Lib.hid (cov_new HS.out.2.2 HS.out.2.1.lt _ (by first | (simp; rfl) | rfl)); have HS2 := Lib.hid (kn_alloc HS.out (.cells Try.zeroCells25 25)); clear HS; have HS := HS2; clear HS2; (try (have HL2 := Lib.hid (HL.out.below (Below.alloc (Below.refl _ _) (Nat.le_refl _) (.cells Try.zeroCells25 25))); clear HL; have HL := HL2; clear HL2))
          clear hHeld
          refine hK.out _ _ ?_ (fun hHeld => ?_)
          · exact HS.out.1
          clear hK K
          (try simp only [Act.put, List.setIfInBounds_toArray, List.set_cons_zero, List.set_cons_succ])
          refine wpAnyM_oneS 6 rfl (by kernel_rfl) (fun K hK => ?_)
          go_simp
          (refine (SC.out _ HS.out.2.1.cell HS.out.2.1.free).mono ?_); rintro e w7 ⟨rfl, hu7⟩; have HS2 := Lib.hid (kn_upd HS.out hbcf hbw hu7); clear HS; have HS := HS2; clear HS2; (try (have HA2 := Lib.hid (And.intro (HA.out.1.upd hu7 (by have := HA.out.2; simp; omega)) HA.out.2); clear HA; have HA := HA2; clear HA2)); clear hu7
          (try dsimp only)
          (try simp only [Act.put, List.setIfInBounds_toArray, List.set_cons_zero, List.set_cons_succ])
          clear hHeld
          refine hK.out _ _ ?_ (fun hHeld => ?_)
          · exact HS.out.1
          clear hK K
          (try simp only [Act.put, List.setIfInBounds_toArray, List.set_cons_zero, List.set_cons_succ])
          refine wpAnyM_one 8 rfl (by kernel_rfl) (fun K hK => ?_)
          refine if_pos_of rfl ?_; refine wp_of_run (run_store_row 25 (.tmp 3) (.tmp 17) rfl _ rfl rfl HA.out.1 icov) ?_
          refine hK.out _ _ (.inl (by kernel_rfl)) (fun _ => ?_)
          clear hK K
          (try simp only [Act.put, List.setIfInBounds_toArray, List.set_cons_zero, List.set_cons_succ])
          refine wpAnyM_done (by kernel_rfl) ?_ _
          (go_wp2_with fail; go_meet; exact ⟨_, rfl, kn_end HS.out HA.out hbw knS⟩)
      · go_simp; have HA := Lib.hid (cov_new HS.out.2.2 HS.out.2.1.lt _ (by first | (simp; rfl) | rfl)); have HS2 := Lib.hid (kn_alloc HS.out (.cells Try.zeroCells25 25)); clear HS; have HS := HS2; clear HS2; (try (have HL2 := Lib.hid (HL.out.below (Below.alloc (Below.refl _ _) (Nat.le_refl _) (.cells Try.zeroCells25 25))); clear HL; have HL := HL2; clear HL2))
        clear hHeld
        refine hK.out _ _ ?_ (fun hHeld => ?_)
        · exact HS.out.1
        clear hK K
        (try simp only [Act.put, List.setIfInBounds_toArray, List.set_cons_zero, List.set_cons_succ])
        refine wpAnyM_oneS 3 rfl (by kernel_rfl) (fun K hK => ?_)
        go_simp
        (refine (new_any ⟨bc, 0, none⟩ false _ 2 2 knL _ HS.out.2.1.cell HS.out.2.1.free HL.out).mono ?_); rintro e w6 ⟨rfl, hu6⟩; (rw [knH] at hu6); have HS2 := Lib.hid (kn_upd HS.out hbcf hbw hu6); clear HS; have HS := HS2; clear HS2 HL; (try (have HA2 := Lib.hid (And.intro (HA.out.1.upd hu6 (by have := HA.out.2; simp; omega)) HA.out.2); clear HA; have HA := HA2; clear HA2)); clear hu6
        (try dsimp only)
        (try simp only [Act.put, List.setIfInBounds_toArray, List.set_cons_zero, List.set_cons_succ])
        clear hHeld
        refine hK.out _ _ ?_ (fun hHeld => ?_)
        · exact HS.out.1
        clear hK K
        (try simp only [Act.put, List.setIfInBounds_toArray, List.set_cons_zero, List.set_cons_succ])
        refine wpAnyM_oneS 6 rfl (by kernel_rfl) (fun K hK => ?_)
        go_simp
        (refine (SC.out _ HS.out.2.1.cell HS.out.2.1.free).mono ?_); rintro e w7 ⟨rfl, hu7⟩; have HS2 := Lib.hid (kn_upd HS.out hbcf hbw hu7); clear HS; have HS := HS2; clear HS2; (try (have HA2 := Lib.hid (And.intro (HA.out.1.upd hu7 (by have := HA.out.2; simp; omega)) HA.out.2); clear HA; have HA := HA2; clear HA2)); clear hu7
        (try dsimp only)
        (try simp only [Act.put, List.setIfInBounds_toArray, List.set_cons_zero, List.set_cons_succ])
        clear hHeld
        refine hK.out _ _ ?_ (fun hHeld => ?_)
        · exact HS.out.1
        clear hK K
        (try simp only [Act.put, List.setIfInBounds_toArray, List.set_cons_zero, List.set_cons_succ])
        refine wpAnyM_one 8 rfl (by kernel_rfl) (fun K hK => ?_)
        refine if_pos_of rfl ?_; refine wp_of_run (run_store_row 25 (.tmp 3) (.tmp 17) rfl _ rfl rfl HA.out.1 icov) ?_
        refine hK.out _ _ (.inl (by kernel_rfl)) (fun _ => ?_)
        clear hK K
        (try simp only [Act.put, List.setIfInBounds_toArray, List.set_cons_zero, List.set_cons_succ])
        refine wpAnyM_done (by kernel_rfl) ?_ _
        (go_wp2_with fail; go_meet; exact ⟨_, rfl, kn_end HS.out HA.out hbw knS⟩)
    · go_simp; have HA := Lib.hid (cov_new HS.out.2.2 HS.out.2.1.lt _ (by first | (simp; rfl) | rfl)); have HS2 := Lib.hid (kn_alloc HS.out (.cells Try.zeroCells25 25)); clear HS; have HS := HS2; clear HS2; (try (have HL2 := Lib.hid (HL.out.below (Below.alloc (Below.refl _ _) (Nat.le_refl _) (.cells Try.zeroCells25 25))); clear HL; have HL := HL2; clear HL2))
      clear hHeld
      refine hK.out _ _ ?_ (fun hHeld => ?_)
      · exact HS.out.1
      clear hK K
      (try simp only [Act.put, List.setIfInBounds_toArray, List.set_cons_zero, List.set_cons_succ])
      refine wpAnyM_oneS 2 rfl (by kernel_rfl) (fun K hK => ?_)
      go_simp; have HL := Lib.hid (slc2_new HS.out.2.2 17592186044416 _ (by first | (simp; rfl) | rfl)); have HS2 := Lib.hid (kn_alloc HS.out (.cells #[.int .i64 17592186044416, .int .i64 17592186044416] 2)); clear HS; have HS := HS2; clear HS2; (try (have HA2 := Lib.hid (And.intro (HA.out.1.alloc (.cells #[.int .i64 17592186044416, .int .i64 17592186044416] 2)) HA.out.2); clear HA; have HA := HA2; clear HA2))
      clear hHeld
      refine hK.out _ _ ?_ (fun hHeld => ?_)
      · exact HS.out.1
      clear hK K
      (try simp only [Act.put, List.setIfInBounds_toArray, List.set_cons_zero, List.set_cons_succ])
      refine wpAnyM_oneS 3 rfl (by kernel_rfl) (fun K hK => ?_)
      go_simp
      (refine (new_any ⟨bc, 0, none⟩ false _ 2 2 knL _ HS.out.2.1.cell HS.out.2.1.free HL.out).mono ?_); rintro e w6 ⟨rfl, hu6⟩; (rw [knH] at hu6); have HS2 := Lib.hid (kn_upd HS.out hbcf hbw hu6); clear HS; have HS := HS2; clear HS2 HL; (try (have HA2 := Lib.hid (And.intro (HA.out.1.upd hu6 (by have := HA.out.2; simp; omega)) HA.out.2); clear HA; have HA := HA2; clear HA2)); clear hu6
      (try dsimp only)
      (try simp only [Act.put, List.setIfInBounds_toArray, List.set_cons_zero, List.set_cons_succ])
      clear hHeld
      refine hK.out _ _ ?_ (fun hHeld => ?_)
      · exact HS.out.1
      clear hK K
      (try simp only [Act.put, List.setIfInBounds_toArray, List.set_cons_zero, List.set_cons_succ])
      refine wpAnyM_oneS 6 rfl (by kernel_rfl) (fun K hK => ?_)
      go_simp
      (refine (SC.out _ HS.out.2.1.cell HS.out.2.1.free).mono ?_); rintro e w7 ⟨rfl, hu7⟩; have HS2 := Lib.hid (kn_upd HS.out hbcf hbw hu7); clear HS; have HS := HS2; clear HS2; (try (have HA2 := Lib.hid (And.intro (HA.out.1.upd hu7 (by have := HA.out.2; simp; omega)) HA.out.2); clear HA; have HA := HA2; clear HA2)); clear hu7
      (try dsimp only)
      (try simp only [Act.put, List.setIfInBounds_toArray, List.set_cons_zero, List.set_cons_succ])
      clear hHeld
      refine hK.out _ _ ?_ (fun hHeld => ?_)
      · exact HS.out.1
      clear hK K
      (try simp only [Act.put, List.setIfInBounds_toArray, List.set_cons_zero, List.set_cons_succ])
      refine wpAnyM_one 8 rfl (by kernel_rfl) (fun K hK => ?_)
      refine if_pos_of rfl ?_; refine wp_of_run (run_store_row 25 (.tmp 3) (.tmp 17) rfl _ rfl rfl HA.out.1 icov) ?_
      refine hK.out _ _ (.inl (by kernel_rfl)) (fun _ => ?_)
      clear hK K
      (try simp only [Act.put, List.setIfInBounds_toArray, List.set_cons_zero, List.set_cons_succ])
      refine wpAnyM_done (by kernel_rfl) ?_ _
      (go_wp2_with fail; go_meet; exact ⟨_, rfl, kn_end HS.out HA.out hbw knS⟩)
  case rest =>
    obtain ⟨b, rfl, HB⟩ := hcut
    clear HS SC B5 K5 A5
    go_upto_region 7 with fail
    have e277 : knS 277 = 17592186044416 := by rw [knS_at (by decide), if_neg (by decide)]; exact knF_at (i := 1) (by decide)
    have e276 : knS 276 = 17592186044416 := by rw [knS_at (by decide), if_neg (by decide)]; exact knF_at (i := 0) (by decide)
    have c0 := HB.out.1.cell (i := 277) (by decide)
    rw [e277] at c0
    have UC := Lib.hid (fun (x : World) => u_any knS 0 1 x (by decide) (by decide))
    simp only [knS_u, show ((0 : Nat) : Int) = 0 from rfl, show ((1 : Nat) : Int) = 1 from rfl] at UC
    have AC := Lib.hid (fun (x : World) (k1 : x.cell? ⟨bc, 0, none⟩ = some (.bool false)) (k2 : x.frozen? ⟨bc, 0, none⟩ = false) => at_any ⟨bc, 0, none⟩ false knS 0 0 x k1 k2 (by decide) (by decide))
    simp only [knS_two.1, knS_two.2, Bool.or_false, show ((0 : Nat) : Int) = 0 from rfl] at AC
    have E6 := Lib.hid e276
    obtain ⟨S, hS⟩ : ∃ x, knS = x := ⟨_, rfl⟩
    rw [hS] at HB UC AC E6
    clear e276 e277 hS
    have hbb := HB.out.2.1.ne HB.out.1
    refine wp_region_lit ?_
    refine wpList_val (v := ?_) rfl ?_ ?_
    rotate_left
    · (go_simp; (try (first | with_reducible rfl | (constructor <;> with_reducible rfl))))
    (try simp only [Act.put, List.setIfInBounds_toArray, List.set_cons_zero, List.set_cons_succ])
    refine wpList_val (v := ?_) rfl ?_ ?_
    rotate_left
    · (go_simp; (try (first | with_reducible rfl | (constructor <;> with_reducible rfl))))
    (try simp only [Act.put, List.setIfInBounds_toArray, List.set_cons_zero, List.set_cons_succ])
    refine wpList_val (v := ?_) rfl ?_ ?_
    rotate_left
    · (go_simp; (try (first | with_reducible rfl | (constructor <;> with_reducible rfl))))
    (try simp only [Act.put, List.setIfInBounds_toArray, List.set_cons_zero, List.set_cons_succ])
    refine wpList_val (v := ?_) rfl ?_ ?_
    rotate_left
    · (go_simp; (try (first | with_reducible rfl | (constructor <;> with_reducible rfl))))
    (try simp only [Act.put, List.setIfInBounds_toArray, List.set_cons_zero, List.set_cons_succ])
    refine wpList_val (v := ?_) rfl ?_ ?_
    rotate_left
    · (go_simp; (try (first | with_reducible rfl | (constructor <;> with_reducible rfl))))
    (try simp only [Act.put, List.setIfInBounds_toArray, List.set_cons_zero, List.set_cons_succ])
    refine wpList_val (v := ?_) (by rfl) ?_ ?_
    rotate_left
    · refine Eq.trans (run_load_row 25 (.tmp 3) (by rfl) (b) (by rfl) _ _ _ _ (HB.out.1) Try.underlying25 rfl (icov.trans (by rw [arrv_size]))) ?_; with_reducible rfl
    (try simp only [Act.put, List.setIfInBounds_toArray, List.set_cons_zero, List.set_cons_succ])
    refine wpList_step (fun K hK => ?_)
    go_simp
    (refine (UC.out _).mono ?_); rintro e w8 ⟨rfl, hb8⟩; have B8 := Lib.hid (HB.out.1.below hb8); have K8 := Lib.hid (HB.out.2.1.below hb8); have A8 := Lib.hid (Below.after HB.out.2.2 hb8); have c8 := B8.out.cell (i := 276) (by decide); (rw [E6.out] at c8); clear hb8
    (try dsimp only)
    (try simp only [Act.put, List.setIfInBounds_toArray, List.set_cons_zero, List.set_cons_succ])
    refine hK _ _ ?_
    clear hK K
    refine wpList_val (v := ?_) (by rfl) ?_ ?_
    rotate_left
    · (go_simp; (try (first | with_reducible rfl | (constructor <;> with_reducible rfl))))
    (try simp only [Act.put, List.setIfInBounds_toArray, List.set_cons_zero, List.set_cons_succ])
    refine wpList_val (v := ?_) rfl ?_ ?_
    rotate_left
    · (go_simp; (try (first | with_reducible rfl | (constructor <;> with_reducible rfl))))
    (try simp only [Act.put, List.setIfInBounds_toArray, List.set_cons_zero, List.set_cons_succ])
    refine wpList_val (v := ?_) rfl ?_ ?_
    rotate_left
    · (go_simp; (try (first | with_reducible rfl | (constructor <;> with_reducible rfl))))
    (try simp only [Act.put, List.setIfInBounds_toArray, List.set_cons_zero, List.set_cons_succ])
    refine wpList_val (v := ?_) (by rfl) ?_ ?_
    rotate_left
    · (go_simp; (try (first | with_reducible rfl | (constructor <;> with_reducible rfl))))
    (try simp only [Act.put, List.setIfInBounds_toArray, List.set_cons_zero, List.set_cons_succ])
    refine wpList_val (v := ?_) (by rfl) ?_ ?_
    rotate_left
    · (go_simp; (try (first | with_reducible rfl | (constructor <;> with_reducible rfl))))
    (try simp only [Act.put, List.setIfInBounds_toArray, List.set_cons_zero, List.set_cons_succ])
    refine wpList_val (v := ?_) (by rfl) ?_ ?_
    rotate_left
    · (go_simp; (try (first | with_reducible rfl | (constructor <;> with_reducible rfl))))
    (try simp only [Act.put, List.setIfInBounds_toArray, List.set_cons_zero, List.set_cons_succ])
    refine wpList_val (v := ?_) (by rfl) ?_ ?_
    rotate_left
    · (go_simp; (try (first | with_reducible rfl | (constructor <;> with_reducible rfl))))
    (try simp only [Act.put, List.setIfInBounds_toArray, List.set_cons_zero, List.set_cons_succ])
    refine wpList_val (v := ?_) rfl ?_ ?_
    rotate_left
    · (go_simp; (try (first | with_reducible rfl | (constructor <;> with_reducible rfl))))
    (try simp only [Act.put, List.setIfInBounds_toArray, List.set_cons_zero, List.set_cons_succ])
    refine wpList_val (v := ?_) rfl ?_ ?_
    rotate_left
    · (go_simp; (try (first | with_reducible rfl | (constructor <;> with_reducible rfl))))
    (try simp only [Act.put, List.setIfInBounds_toArray, List.set_cons_zero, List.set_cons_succ])
    refine wpList_val (v := ?_) (by rfl) ?_ ?_
    rotate_left
    · (go_simp; (try (first | with_reducible rfl | (constructor <;> with_reducible rfl))))
    (try simp only [Act.put, List.setIfInBounds_toArray, List.set_cons_zero, List.set_cons_succ])
    refine wpList_val (v := ?_) (by rfl) ?_ ?_
    rotate_left
    · refine Eq.trans (run_load_row 25 (.tmp 3) (by rfl) (b) (by rfl) _ _ _ _ (B8.out) Try.underlying25 rfl (icov.trans (by rw [arrv_size]))) ?_; with_reducible rfl
    (try simp only [Act.put, List.setIfInBounds_toArray, List.set_cons_zero, List.set_cons_succ])
    refine wpList_step (fun K hK => ?_)
    go_simp
    (refine (AC.out _ K8.out.cell K8.out.free).mono ?_); rintro e w9 ⟨rfl, hu9⟩; have K9 := Lib.hid (K8.out.hit hu9); have A9 := Lib.hid (own_upd A8.out hbw hu9); have c9 := K9.out.cell; clear hu9
    (try dsimp only)
    (try simp only [Act.put, List.setIfInBounds_toArray, List.set_cons_zero, List.set_cons_succ])
    refine hK _ _ ?_
    clear hK K
    refine wpList_val (v := ?_) (by rfl) ?_ ?_
    rotate_left
    · (go_simp; (try (first | with_reducible rfl | (constructor <;> with_reducible rfl))))
    (try simp only [Act.put, List.setIfInBounds_toArray, List.set_cons_zero, List.set_cons_succ])
    refine wpList_val (v := ?_) rfl ?_ ?_
    rotate_left
    · (go_simp; (try (first | with_reducible rfl | (constructor <;> with_reducible rfl))))
    (try simp only [Act.put, List.setIfInBounds_toArray, List.set_cons_zero, List.set_cons_succ])
    refine wpList_val (v := ?_) rfl ?_ ?_
    rotate_left
    · (go_simp; (try (first | with_reducible rfl | (constructor <;> with_reducible rfl))))
    (try simp only [Act.put, List.setIfInBounds_toArray, List.set_cons_zero, List.set_cons_succ])
    refine wpList_val (v := ?_) (by rfl) ?_ ?_
    rotate_left
    · (go_simp; (try (first | with_reducible rfl | (constructor <;> with_reducible rfl))))
    (try simp only [Act.put, List.setIfInBounds_toArray, List.set_cons_zero, List.set_cons_succ])
    refine wpList_val (v := ?_) (by rfl) ?_ ?_
    rotate_left
    · (go_simp; (try (first | with_reducible rfl | (constructor <;> with_reducible rfl))))
    (try simp only [Act.put, List.setIfInBounds_toArray, List.set_cons_zero, List.set_cons_succ])
    refine wpList_val (v := ?_) (by rfl) ?_ ?_
    rotate_left
    · (go_simp; (try (first | with_reducible rfl | (constructor <;> with_reducible rfl))))
    (try simp only [Act.put, List.setIfInBounds_toArray, List.set_cons_zero, List.set_cons_succ])
    refine wpList_val (v := ?_) (by rfl) ?_ ?_
    rotate_left
    · (go_simp; (try (first | with_reducible rfl | (constructor <;> with_reducible rfl))))
    (try simp only [Act.put, List.setIfInBounds_toArray, List.set_cons_zero, List.set_cons_succ])
    refine wpList_val (v := ?_) (by rfl) ?_ ?_
    rotate_left
    · (go_simp; (try (first | with_reducible rfl | (constructor <;> with_reducible rfl))))
    (try simp only [Act.put, List.setIfInBounds_toArray, List.set_cons_zero, List.set_cons_succ])
    refine wpList_val (v := ?_) rfl ?_ ?_
    rotate_left
    · (go_simp; (try (first | with_reducible rfl | (constructor <;> with_reducible rfl))))
    (try simp only [Act.put, List.setIfInBounds_toArray, List.set_cons_zero, List.set_cons_succ])
    refine wpList_val (v := ?_) rfl ?_ ?_
    rotate_left
    · (go_simp; (try (first | with_reducible rfl | (constructor <;> with_reducible rfl))))
    (try simp only [Act.put, List.setIfInBounds_toArray, List.set_cons_zero, List.set_cons_succ])
    refine wpList_nil ?_
    go_wp2_with fail
    go_ret
    exact ⟨rfl, A9.out⟩
end Go.Proofs.Ytomcniampdpnhaa
