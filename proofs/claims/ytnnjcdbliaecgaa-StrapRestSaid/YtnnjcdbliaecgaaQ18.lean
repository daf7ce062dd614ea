/- Contracts of the program's functions and plain laws, part 18: they hold for all arguments. -/
import Derived.Test.YtnnjcdbliaecgaaQ17
import Derived.Deep.QuietTactic
import Derived.BigQuiet
import Derived.Test.YtnnjcdbliaecgaaQ05
import Derived.OpenShut
import Derived.ProofKit
import Derived.Test.YtnnjcdbliaecgaaQ06
import Derived.Carry
/- Contract of law 16's awake. -/
namespace Go.Proofs.Ytnnjcdbliaecgaa
open Go.RowKit
set_option maxRecDepth 100000
open Go in
theorem run_build_st1 {o : Oper} {ev : Operand → Value} {w : World} (x : Operand) (ho : o.op = .build 27 #[(0, x)]) {a : Int} (hx : ev x = .int .i64 a) :
    (execOp ev o).run Try.prog w = .ok (.value (.agg (arrv 24 (fun i => if i = 0 then a else 0)))) w := by
  unfold execOp
  simp only [ho, List.map_toArray, List.map_cons, List.map_nil, hx]
  kernel_rfl
/-- The flag (never set), the estimate. -/
structure AsR (bc sb : Nat) (w wr : World) : Prop where
  below : Below w.heap.size w wr
  fl : Flg wr bc false
  s : Blk wr sb 27 24 oneS
  lt : w.heap.size ≤ bc ∧ bc < sb
theorem AsR.down {bc sb : Nat} {w wr w' : World} (s : AsR bc sb w wr) (k : Below wr.heap.size wr w') : AsR bc sb w w' := ⟨s.below.trans (k.mono s.below.size), s.fl.below k, s.s.below k, s.lt⟩
theorem AsR.upd' {bc sb : Nat} {w wr w' : World} (s : AsR bc sb w wr) (u : Upd ⟨bc, 0, none⟩ false wr w') : AsR bc sb w w' := ⟨below_of_upd s.below u s.lt.1, s.fl.hit u, s.s.upd u (by have := s.lt; simp only; omega), s.lt⟩
structure AtR (bc sb pb : Nat) (w wr : World) : Prop where
  a : AsR bc sb w wr
  p : Blk wr pb 49 20 p0
  lt : sb < pb
theorem AtR.down {bc sb pb : Nat} {w wr w' : World} (s : AtR bc sb pb w wr) (k : Below wr.heap.size wr w') : AtR bc sb pb w w' := ⟨s.a.down k, s.p.below k, s.lt⟩
theorem AtR.upd' {bc sb pb : Nat} {w wr w' : World} (s : AtR bc sb pb w wr) (u : Upd ⟨bc, 0, none⟩ false wr w') : AtR bc sb pb w w' := ⟨s.a.upd' u, s.p.upd u (by have := s.lt; have := s.a.lt; simp only; omega), s.lt⟩
theorem as_start (w : World) : AsR w.heap.size (w.heap.size + 1) w (((w.alloc (.cells #[.bool false] 25)).alloc (.cells #[.int .i64 0, .int .i64 0, .int .i64 0, .int .i64 0, .int .i64 0, .int .i64 0, .int .i64 0, .int .i64 0, .int .i64 0, .int .i64 0, .int .i64 0, .int .i64 0, .int .i64 0, .int .i64 0, .int .i64 0, .int .i64 0, .int .i64 0, .int .i64 0, .int .i64 0, .int .i64 0, .int .i64 0, .int .i64 0, .int .i64 0, .int .i64 0] 27)).setRow (w.heap.size + 1) (arrv 24 oneS)) := by
  have b1 : Blk ((w.alloc (.cells #[.bool false] 25)).alloc (.cells #[.int .i64 0, .int .i64 0, .int .i64 0, .int .i64 0, .int .i64 0, .int .i64 0, .int .i64 0, .int .i64 0, .int .i64 0, .int .i64 0, .int .i64 0, .int .i64 0, .int .i64 0, .int .i64 0, .int .i64 0, .int .i64 0, .int .i64 0, .int .i64 0, .int .i64 0, .int .i64 0, .int .i64 0, .int .i64 0, .int .i64 0, .int .i64 0] 27)) (w.heap.size + 1) 27 24 (fun _ => 0) := by rw [zvec24]; exact Blk.new1 w _ _ 24 _
  exact ⟨below_row (by (repeat (first | with_reducible exact Below.refl _ _ | with_reducible apply Below.drew | (with_reducible refine below_drewN ?_ _) | (with_reducible refine Below.alloc ?_ (by (try simp) <;> omega) _) | (with_reducible refine Below.setCell ?_ (by (try simp) <;> omega) _)))) (by omega) _, ((Flg.new w false).alloc _).row _ (by omega), b1.setRow _, Nat.le_refl _, by omega⟩
theorem as_new {bc sb : Nat} {w wr : World} (s : AsR bc sb w wr) (d : Nat) (e : wr.heap.size = d) : Blk (wr.alloc (.cells #[.int .i64 0, .int .i64 0, .int .i64 0, .int .i64 0, .int .i64 0, .int .i64 0, .int .i64 0, .int .i64 0, .int .i64 0, .int .i64 0, .int .i64 0, .int .i64 0, .int .i64 0, .int .i64 0, .int .i64 0, .int .i64 0, .int .i64 0, .int .i64 0, .int .i64 0, .int .i64 0] 49)) d 49 20 (fun _ => 0) ∧ sb < d := by
  subst e; rw [zp20]; exact ⟨Blk.new _ _ _ _, s.s.lt⟩
theorem as_put {bc sb d : Nat} {f : Nat → Int} {w wr : World} (s : AsR bc sb w wr) (hb : Blk wr d 49 20 f) (hd : sb < d) : AtR bc sb d w (wr.setRow d (arrv 20 p0)) :=
  ⟨⟨below_row s.below (by have := s.lt; omega) _, s.fl.row _ (by have := s.lt; omega), s.s.setRow_other _ (by omega), s.lt⟩, hb.setRow p0, hd⟩
theorem eqB_self (n : Nat) (f : Nat → Int) : eqB n f f = true := eqB_iff.2 fun _ _ => rfl
/-- The contracts of rest, with their numbers. -/
theorem rest_step (c : Addr) (x : World) (k : x.cell? c = some (.bool false)) (f : x.frozen? c = false) :
    Calls Try.prog 9 #[.pointer (some c), .agg (arrv 24 oneS), .agg (arrv 8 (stlF 8000))] x fun e w' => e = .returned (.agg (arrv 24 oneS)) ∧ Upd c false x w' := by
  have h := step_any2 c false oneS (stlF 8000) x k f
  rw [st_step.2, arrv_congr st_step.1] at h
  exact h
theorem rest_split (c : Addr) (x : World) (k : x.cell? c = some (.bool false)) (f : x.frozen? c = false) :
    Calls Try.prog 17 #[.pointer (some c), .agg (arrv 24 oneS), .agg (arrv 8 (stlF 8000))] x fun e w' => e = .returned (.agg (arrv 20 p0)) ∧ Upd c false x w' := by
  have h := split_any c false oneS (stlF 8000) x k f
  rw [st_keep.2, st_spl.2, arrv_congr st_spl.1] at h
  exact h
theorem rest_of (c : Addr) (x : World) (k : x.cell? c = some (.bool false)) (f : x.frozen? c = false) :
    Calls Try.prog 19 #[.pointer (some c), .agg (arrv 4 oneQ)] x fun e w' => e = .returned (.agg (arrv 9 id9)) ∧ Upd c false x w' := by
  have h := rof_any c false oneQ x k f
  rw [st_ro.2, arrv_congr st_ro.1] at h
  exact h
theorem rest_sec1 (c : Addr) (x : World) (k : x.cell? c = some (.bool false)) (f : x.frozen? c = false) :
    Calls Try.prog 14 #[.pointer (some c), .int .i64 1000000] x fun e w' => e = .returned (.int .i64 1073741824) ∧ Upd c false x w' := by
  have h := sec_any c false 1000000 x k f
  rw [st_sec.1, st_sec.2.1] at h
  exact h
theorem rest_sec2 (c : Addr) (x : World) (k : x.cell? c = some (.bool false)) (f : x.frozen? c = false) :
    Calls Try.prog 14 #[.pointer (some c), .int .i64 8000] x fun e w' => e = .returned (.int .i64 8589935) ∧ Upd c false x w' := by
  have h := sec_any c false 8000 x k f
  rw [st_sec.2.2.1, st_sec.2.2.2] at h
  exact h
set_option maxHeartbeats 16000000 in
theorem awake16_any (w : World) : Calls Try.prog 8 #[] w fun e w' => e = .returned (.bool true) ∧ Below w.heap.size w w' := by
  have S0 := Lib.hid (as_start w)
  go_enter Try.func8, Try.ntmps8
  go_upto_region 2 with fail
  refine wp_region_lit ?_
  refine wpList_val (v := ?_) rfl ?_ ?_
  rotate_left
  · (refine Eq.trans (run_build_st1 (.const (.int .i64 1073741824)) (by rfl) (by rfl)) ?_; with_reducible rfl)
  (try simp only [Act.put, nA, nB, nC])
  refine wpList_act (v := ?_) (w' := ?_) rfl ?_ ?_
  rotate_left 2
  · (go_simp; (try (first | with_reducible rfl | (constructor <;> with_reducible rfl))))
  (try simp only [Act.put, nA, nB, nC])
  refine wpList_done (w' := ?_) rfl ?_ ?_
  rotate_left
  · (refine Eq.trans (run_store_row 27 (.tmp 2) (.tmp 6) (by rfl) (w.heap.size + 1) (by first | (simp; rfl) | rfl) (by rfl) (show Blk ((w.alloc (.cells #[.bool false] 25)).alloc (.cells #[.int .i64 0, .int .i64 0, .int .i64 0, .int .i64 0, .int .i64 0, .int .i64 0, .int .i64 0, .int .i64 0, .int .i64 0, .int .i64 0, .int .i64 0, .int .i64 0, .int .i64 0, .int .i64 0, .int .i64 0, .int .i64 0, .int .i64 0, .int .i64 0, .int .i64 0, .int .i64 0, .int .i64 0, .int .i64 0, .int .i64 0, .int .i64 0] 27)) (w.heap.size + 1) 27 24 (fun _ => 0) by rw [zvec24]; exact Blk.new1 w _ _ 24 _) (ist.trans rfl)) ?_; with_reducible rfl)
  (try simp only [Act.put, nA, nB, nC])
  refine wpList_nil ?_
  rw [show (fun i => if i = 0 then (1073741824 : Int) else 0) = oneS from rfl]
  generalize ((w.alloc (.cells #[.bool false] 25)).alloc (.cells #[.int .i64 0, .int .i64 0, .int .i64 0, .int .i64 0, .int .i64 0, .int .i64 0, .int .i64 0, .int .i64 0, .int .i64 0, .int .i64 0, .int .i64 0, .int .i64 0, .int .i64 0, .int .i64 0, .int .i64 0, .int .i64 0, .int .i64 0, .int .i64 0, .int .i64 0, .int .i64 0, .int .i64 0, .int .i64 0, .int .i64 0, .int .i64 0] 27)).setRow (w.heap.size + 1) (arrv 24 oneS) = W0 at *
  go_upto_region 3 with fail
  have HS := Lib.hid (S0.out.down (Below.drew (Below.refl _ _)))
  clear S0
  have hbs : w.heap.size < w.heap.size + 1 := by omega
  (try simp only [Act.put])
  go_cut [3] from 7 to 10 (fun s3 wx => ∃ b, s3 = .pointer (some ⟨b, 0, none⟩) ∧ Hid (AtR w.heap.size (w.heap.size + 1) b w wx))
  case first =>
    refine wp_region_M (fun w' => Blk w' (w.heap.size + 1) 27 24 oneS) 5 (by kernel_rfl) ?_ (fun hHeld => ?_)
    · exact HS.out.s
    refine wpAnyM_take 0 (v := ?_) rfl (by kernel_rfl) (fun _ _ _ h => h) (Or.inl ⟨by rfl, ?_⟩) (by assumption) ?_
    rotate_left
    · (intro wx hSw; (try dsimp only at hSw); go_simp; (try with_reducible rfl))
    (try simp only [Act.put, nA, nB, nC])
    refine wpAnyM_take 1 (v := ?_) rfl (by kernel_rfl) (fun _ _ _ h => h) (Or.inl ⟨by rfl, ?_⟩) (by assumption) ?_
    rotate_left
    · (intro wx hSw; refine Eq.trans (run_load_row 27 (.tmp 2) (by rfl) (w.heap.size + 1) (by rfl) _ _ _ _ (hSw) Try.underlying27 rfl (ist.trans (by rw [arrv_size]))) ?_; with_reducible rfl)
    (try simp only [Act.put, nA, nB, nC])
    refine wpAnyM_twoS 2 4 rfl rfl (by kernel_rfl) (fun K hK => ?_) (fun K hK => ?_)
    · go_simp
      (refine (still_any 8000 _).mono ?_); rintro e w1 ⟨rfl, hb⟩; have HS2 := Lib.hid (HS.out.down hb); clear HS; have HS := HS2; clear HS2; (try (have HA2 := Lib.hid (And.intro (HA.out.1.below hb) HA.out.2); clear HA; have HA := HA2; clear HA2)); clear hb
      (try dsimp only)
      (try simp only [Act.put, nA, nB, nC])
      clear hHeld
      refine hK.out _ _ ?_ (fun hHeld => ?_)
      · exact HS.out.s
      clear hK K
      (try simp only [Act.put, nA, nB, nC])
      refine wpAnyM_twoS 3 4 rfl rfl (by kernel_rfl) (fun K hK => ?_) (fun K hK => ?_)
      · go_simp
        (refine (rest_split ⟨w.heap.size, 0, none⟩ _ HS.out.fl.cell HS.out.fl.free).mono ?_); rintro e w2 ⟨rfl, hu⟩; have hlt := HS.out.lt; have HS2 := Lib.hid (HS.out.upd' hu); clear HS; have HS := HS2; clear HS2; (try (have HA2 := Lib.hid (And.intro (HA.out.1.upd hu (by have := HA.out.2; simp only; omega)) HA.out.2); clear HA; have HA := HA2; clear HA2)); clear hu hlt
        (try dsimp only)
        (try simp only [Act.put, nA, nB, nC])
        clear hHeld
        refine hK.out _ _ ?_ (fun hHeld => ?_)
        · exact HS.out.s
        clear hK K
        (try simp only [Act.put, nA, nB, nC])
        refine wpAnyM_oneS 4 rfl (by kernel_rfl) (fun K hK => ?_)
        go_simp; have HA := Lib.hid (as_new HS.out _ (by first | (simp; rfl) | rfl)); have HS2 := Lib.hid (HS.out.down (Below.alloc (Below.refl _ _) (Nat.le_refl _) (.cells #[.int .i64 0, .int .i64 0, .int .i64 0, .int .i64 0, .int .i64 0, .int .i64 0, .int .i64 0, .int .i64 0, .int .i64 0, .int .i64 0, .int .i64 0, .int .i64 0, .int .i64 0, .int .i64 0, .int .i64 0, .int .i64 0, .int .i64 0, .int .i64 0, .int .i64 0, .int .i64 0] 49))); clear HS; have HS := HS2; clear HS2
        clear hHeld
        refine hK.out _ _ ?_ (fun hHeld => ?_)
        · exact HS.out.s
        clear hK K
        (try simp only [Act.put, nA, nB, nC])
        refine wpAnyM_one 5 rfl (by kernel_rfl) (fun K hK => ?_)
        refine if_pos_of rfl ?_; refine wp_of_run (run_store_row 49 (.tmp 3) (.tmp 10) rfl _ rfl rfl HA.out.1 iprt) ?_
        refine hK.out _ _ (.inl (by kernel_rfl)) (fun _ => ?_)
        clear hK K
        (try simp only [Act.put, nA, nB, nC])
        refine wpAnyM_done (by kernel_rfl) ?_ _
        (go_wp2_with fail; go_meet; exact ⟨_, rfl, Lib.hid (as_put HS.out HA.out.1 HA.out.2)⟩)
      · go_simp; have HA := Lib.hid (as_new HS.out _ (by first | (simp; rfl) | rfl)); have HS2 := Lib.hid (HS.out.down (Below.alloc (Below.refl _ _) (Nat.le_refl _) (.cells #[.int .i64 0, .int .i64 0, .int .i64 0, .int .i64 0, .int .i64 0, .int .i64 0, .int .i64 0, .int .i64 0, .int .i64 0, .int .i64 0, .int .i64 0, .int .i64 0, .int .i64 0, .int .i64 0, .int .i64 0, .int .i64 0, .int .i64 0, .int .i64 0, .int .i64 0, .int .i64 0] 49))); clear HS; have HS := HS2; clear HS2
        clear hHeld
        refine hK.out _ _ ?_ (fun hHeld => ?_)
        · exact HS.out.s
        clear hK K
        (try simp only [Act.put, nA, nB, nC])
        refine wpAnyM_oneS 3 rfl (by kernel_rfl) (fun K hK => ?_)
        go_simp
        (refine (rest_split ⟨w.heap.size, 0, none⟩ _ HS.out.fl.cell HS.out.fl.free).mono ?_); rintro e w2 ⟨rfl, hu⟩; have hlt := HS.out.lt; have HS2 := Lib.hid (HS.out.upd' hu); clear HS; have HS := HS2; clear HS2; (try (have HA2 := Lib.hid (And.intro (HA.out.1.upd hu (by have := HA.out.2; simp only; omega)) HA.out.2); clear HA; have HA := HA2; clear HA2)); clear hu hlt
        (try dsimp only)
        (try simp only [Act.put, nA, nB, nC])
        clear hHeld
        refine hK.out _ _ ?_ (fun hHeld => ?_)
        · exact HS.out.s
        clear hK K
        (try simp only [Act.put, nA, nB, nC])
        refine wpAnyM_one 5 rfl (by kernel_rfl) (fun K hK => ?_)
        refine if_pos_of rfl ?_; refine wp_of_run (run_store_row 49 (.tmp 3) (.tmp 10) rfl _ rfl rfl HA.out.1 iprt) ?_
        refine hK.out _ _ (.inl (by kernel_rfl)) (fun _ => ?_)
        clear hK K
        (try simp only [Act.put, nA, nB, nC])
        refine wpAnyM_done (by kernel_rfl) ?_ _
        (go_wp2_with fail; go_meet; exact ⟨_, rfl, Lib.hid (as_put HS.out HA.out.1 HA.out.2)⟩)
    · go_simp; have HA := Lib.hid (as_new HS.out _ (by first | (simp; rfl) | rfl)); have HS2 := Lib.hid (HS.out.down (Below.alloc (Below.refl _ _) (Nat.le_refl _) (.cells #[.int .i64 0, .int .i64 0, .int .i64 0, .int .i64 0, .int .i64 0, .int .i64 0, .int .i64 0, .int .i64 0, .int .i64 0, .int .i64 0, .int .i64 0, .int .i64 0, .int .i64 0, .int .i64 0, .int .i64 0, .int .i64 0, .int .i64 0, .int .i64 0, .int .i64 0, .int .i64 0] 49))); clear HS; have HS := HS2; clear HS2
      clear hHeld
      refine hK.out _ _ ?_ (fun hHeld => ?_)
      · exact HS.out.s
      clear hK K
      (try simp only [Act.put, nA, nB, nC])
      refine wpAnyM_oneS 2 rfl (by kernel_rfl) (fun K hK => ?_)
      go_simp
      (refine (still_any 8000 _).mono ?_); rintro e w1 ⟨rfl, hb⟩; have HS2 := Lib.hid (HS.out.down hb); clear HS; have HS := HS2; clear HS2; (try (have HA2 := Lib.hid (And.intro (HA.out.1.below hb) HA.out.2); clear HA; have HA := HA2; clear HA2)); clear hb
      (try dsimp only)
      (try simp only [Act.put, nA, nB, nC])
      clear hHeld
      refine hK.out _ _ ?_ (fun hHeld => ?_)
      · exact HS.out.s
      clear hK K
      (try simp only [Act.put, nA, nB, nC])
      refine wpAnyM_oneS 3 rfl (by kernel_rfl) (fun K hK => ?_)
      go_simp
      (refine (rest_split ⟨w.heap.size, 0, none⟩ _ HS.out.fl.cell HS.out.fl.free).mono ?_); rintro e w2 ⟨rfl, hu⟩; have hlt := HS.out.lt; have HS2 := Lib.hid (HS.out.upd' hu); clear HS; have HS := HS2; clear HS2; (try (have HA2 := Lib.hid (And.intro (HA.out.1.upd hu (by have := HA.out.2; simp only; omega)) HA.out.2); clear HA; have HA := HA2; clear HA2)); clear hu hlt
      (try dsimp only)
      (try simp only [Act.put, nA, nB, nC])
      clear hHeld
      refine hK.out _ _ ?_ (fun hHeld => ?_)
      · exact HS.out.s
      clear hK K
      (try simp only [Act.put, nA, nB, nC])
      refine wpAnyM_one 5 rfl (by kernel_rfl) (fun K hK => ?_)
      refine if_pos_of rfl ?_; refine wp_of_run (run_store_row 49 (.tmp 3) (.tmp 10) rfl _ rfl rfl HA.out.1 iprt) ?_
      refine hK.out _ _ (.inl (by kernel_rfl)) (fun _ => ?_)
      clear hK K
      (try simp only [Act.put, nA, nB, nC])
      refine wpAnyM_done (by kernel_rfl) ?_ _
      (go_wp2_with fail; go_meet; exact ⟨_, rfl, Lib.hid (as_put HS.out HA.out.1 HA.out.2)⟩)
  case rest =>
  obtain ⟨pb, rfl, HB⟩ := hcut
  clear HS hbs
  have HE := Lib.hid (And.intro (eqB_self 24 oneS) (And.intro (eqB_self 4 oneQ) (eqB_self 9 id9)))
  go_upto_region 4 with fail
  have HS := Lib.hid (HB.out.down (Below.drew (Below.refl _ _)))
  clear HB
  refine wp_region_M (fun w' => Blk w' (w.heap.size + 1) 27 24 oneS ∧ Blk w' pb 49 20 p0 ∧ w'.cell? ⟨w.heap.size, 0, none⟩ = some (.bool false)) 45 (by kernel_rfl) ?_ (fun hHeld => ?_)
  · exact ⟨HS.out.a.s, HS.out.p, HS.out.a.fl.cell⟩
  refine wpAnyM_take 0 (v := ?_) rfl (by kernel_rfl) (fun _ _ _ h => h) (Or.inl ⟨by rfl, ?_⟩) (by assumption) ?_
  rotate_left
  · (intro wx hSw; (try dsimp only at hSw); go_simp; (try with_reducible rfl))
  (try simp only [Act.put, nA, nB, nC])
  refine wpAnyM_take 1 (v := ?_) rfl (by kernel_rfl) (fun _ _ _ h => h) (Or.inl ⟨by rfl, ?_⟩) (by assumption) ?_
  rotate_left
  · (intro wx hSw; refine Eq.trans (run_load_row 27 (.tmp 2) (by rfl) (w.heap.size + 1) (by rfl) _ _ _ _ (hSw.1) Try.underlying27 rfl (ist.trans (by rw [arrv_size]))) ?_; with_reducible rfl)
  (try simp only [Act.put, nA, nB, nC])
  refine wpAnyM_take 4 (v := ?_) rfl (by kernel_rfl) (fun _ _ _ h => h) (Or.inl ⟨by rfl, ?_⟩) (by assumption) ?_
  rotate_left
  · (intro wx hSw; refine Eq.trans (run_load_row 27 (.tmp 2) (by rfl) (w.heap.size + 1) (by rfl) _ _ _ _ (hSw.1) Try.underlying27 rfl (ist.trans (by rw [arrv_size]))) ?_; with_reducible rfl)
  (try simp only [Act.put, nA, nB, nC])
  refine wpAnyM_oneS 2 rfl (by kernel_rfl) (fun K hK => ?_)
  go_simp
  (refine (still_any 8000 _).mono ?_); rintro e w1 ⟨rfl, hb⟩; have HS2 := Lib.hid (HS.out.down hb); clear HS; have HS := HS2; clear HS2; clear hb
  (try dsimp only)
  (try simp only [Act.put, nA, nB, nC])
  clear hHeld
  refine hK.out _ _ ?_ (fun hHeld => ?_)
  · exact ⟨HS.out.a.s, HS.out.p, HS.out.a.fl.cell⟩
  clear hK K
  (try simp only [Act.put, nA, nB, nC])
  refine wpAnyM_oneS 3 rfl (by kernel_rfl) (fun K hK => ?_)
  go_simp
  (refine (rest_step ⟨w.heap.size, 0, none⟩ _ HS.out.a.fl.cell HS.out.a.fl.free).mono ?_); rintro e w2 ⟨rfl, hu⟩; have HS2 := Lib.hid (HS.out.upd' hu); clear HS; have HS := HS2; clear HS2; clear hu
  (try dsimp only)
  (try simp only [Act.put, nA, nB, nC])
  clear hHeld
  refine hK.out _ _ ?_ (fun hHeld => ?_)
  · exact ⟨HS.out.a.s, HS.out.p, HS.out.a.fl.cell⟩
  clear hK K
  (try simp only [Act.put, nA, nB, nC])
  refine wpAnyM_take 5 (v := ?_) rfl (by kernel_rfl) (fun _ _ _ h => h) (Or.inl ⟨by rfl, ?_⟩) (by assumption) ?_
  rotate_left
  · (intro wx hSw; refine Eq.trans (run_op_eqlVec Try.underlying27 (by kernel_rfl) (.tmp 14) (.tmp 15) (by rfl) (by rfl) (by rfl) HE.out.1) ?_; with_reducible rfl)
  (try simp only [Act.put, nA, nB, nC])
  refine wpAnyM_take 6 (v := ?_) rfl (by kernel_rfl) (fun _ _ _ h => h) (Or.inl ⟨by rfl, ?_⟩) (by assumption) ?_
  rotate_left
  · (intro wx hSw; (try dsimp only at hSw); go_simp; (try with_reducible rfl))
  (try simp only [Act.put, nA, nB, nC])
  first | (refine wpAnyM_take 7 (v := ?_) rfl (by kernel_rfl) (fun _ _ _ h => h) (Or.inl ⟨by rfl, ?_⟩) (by assumption) ?_; rotate_left; focus ((intro wx hSw; (try dsimp only at hSw); go_simp; (try with_reducible rfl)))) | (refine wpAnyM_take 7 rfl (by kernel_rfl) (fun _ _ _ h => h) (Or.inr ⟨by rfl, rfl⟩) (by assumption) ?_)
  (try simp only [Act.put, nA, nB, nC])
  refine wpAnyM_oneS 8 rfl (by kernel_rfl) (fun K hK => ?_)
  go_simp
  (refine (rest_sec1 ⟨w.heap.size, 0, none⟩ _ HS.out.a.fl.cell HS.out.a.fl.free).mono ?_); rintro e w3 ⟨rfl, hu⟩; have HS2 := Lib.hid (HS.out.upd' hu); clear HS; have HS := HS2; clear HS2; clear hu
  (try dsimp only)
  (try simp only [Act.put, nA, nB, nC])
  clear hHeld
  refine hK.out _ _ ?_ (fun hHeld => ?_)
  · exact ⟨HS.out.a.s, HS.out.p, HS.out.a.fl.cell⟩
  clear hK K
  (try simp only [Act.put, nA, nB, nC])
  first | (refine wpAnyM_take 9 (v := ?_) rfl (by kernel_rfl) (fun _ _ _ h => h) (Or.inl ⟨by rfl, ?_⟩) (by assumption) ?_; rotate_left; focus ((intro wx hSw; (try dsimp only at hSw); go_simp; (try with_reducible rfl)))) | (refine wpAnyM_take 9 rfl (by kernel_rfl) (fun _ _ _ h => h) (Or.inr ⟨by rfl, rfl⟩) (by assumption) ?_)
  (try simp only [Act.put, nA, nB, nC])
  refine wpAnyM_take 10 (v := ?_) rfl (by kernel_rfl) (fun _ _ _ h => h) (Or.inl ⟨by rfl, ?_⟩) (by assumption) ?_
  rotate_left
  · (intro wx hSw; (try dsimp only at hSw); go_simp; (try with_reducible rfl))
  (try simp only [Act.put, nA, nB, nC])
  refine wpAnyM_take 11 (v := ?_) rfl (by kernel_rfl) (fun _ _ _ h => h) (Or.inl ⟨by rfl, ?_⟩) (by assumption) ?_
  rotate_left
  · (intro wx hSw; (try dsimp only at hSw); go_simp; (try with_reducible rfl))
  (try simp only [Act.put, nA, nB, nC])
  first | (refine wpAnyM_take 12 (v := ?_) rfl (by kernel_rfl) (fun _ _ _ h => h) (Or.inl ⟨by rfl, ?_⟩) (by assumption) ?_; rotate_left; focus ((intro wx hSw; (try dsimp only at hSw); go_simp; (try with_reducible rfl)))) | (refine wpAnyM_take 12 rfl (by kernel_rfl) (fun _ _ _ h => h) (Or.inr ⟨by rfl, rfl⟩) (by assumption) ?_)
  (try simp only [Act.put, nA, nB, nC])
  first | (refine wpAnyM_take 13 (v := ?_) rfl (by kernel_rfl) (fun _ _ _ h => h) (Or.inl ⟨by rfl, ?_⟩) (by assumption) ?_; rotate_left; focus ((intro wx hSw; have h0 := hSw.2.1.cell (i := 0) (by decide); rw [show p0 0 = 8589935 from rfl] at h0; go_simp; (try with_reducible rfl)))) | (refine wpAnyM_take 13 rfl (by kernel_rfl) (fun _ _ _ h => h) (Or.inr ⟨by rfl, rfl⟩) (by assumption) ?_)
  (try simp only [Act.put, nA, nB, nC])
  first | (refine wpAnyM_take 14 (v := ?_) rfl (by kernel_rfl) (fun _ _ _ h => h) (Or.inl ⟨by rfl, ?_⟩) (by assumption) ?_; rotate_left; focus ((intro wx hSw; (try dsimp only at hSw); go_simp; (try with_reducible rfl)))) | (refine wpAnyM_take 14 rfl (by kernel_rfl) (fun _ _ _ h => h) (Or.inr ⟨by rfl, rfl⟩) (by assumption) ?_)
  (try simp only [Act.put, nA, nB, nC])
  refine wpAnyM_oneS 15 rfl (by kernel_rfl) (fun K hK => ?_)
  go_simp
  (refine (rest_sec2 ⟨w.heap.size, 0, none⟩ _ HS.out.a.fl.cell HS.out.a.fl.free).mono ?_); rintro e w4 ⟨rfl, hu⟩; have HS2 := Lib.hid (HS.out.upd' hu); clear HS; have HS := HS2; clear HS2; clear hu
  (try dsimp only)
  (try simp only [Act.put, nA, nB, nC])
  clear hHeld
  refine hK.out _ _ ?_ (fun hHeld => ?_)
  · exact ⟨HS.out.a.s, HS.out.p, HS.out.a.fl.cell⟩
  clear hK K
  (try simp only [Act.put, nA, nB, nC])
  first | (refine wpAnyM_take 16 (v := ?_) rfl (by kernel_rfl) (fun _ _ _ h => h) (Or.inl ⟨by rfl, ?_⟩) (by assumption) ?_; rotate_left; focus ((intro wx hSw; (try dsimp only at hSw); go_simp; (try with_reducible rfl)))) | (refine wpAnyM_take 16 rfl (by kernel_rfl) (fun _ _ _ h => h) (Or.inr ⟨by rfl, rfl⟩) (by assumption) ?_)
  (try simp only [Act.put, nA, nB, nC])
  refine wpAnyM_take 17 (v := ?_) rfl (by kernel_rfl) (fun _ _ _ h => h) (Or.inl ⟨by rfl, ?_⟩) (by assumption) ?_
  rotate_left
  · (intro wx hSw; (try dsimp only at hSw); go_simp; (try with_reducible rfl))
  (try simp only [Act.put, nA, nB, nC])
  refine wpAnyM_take 18 (v := ?_) rfl (by kernel_rfl) (fun _ _ _ h => h) (Or.inl ⟨by rfl, ?_⟩) (by assumption) ?_
  rotate_left
  · (intro wx hSw; (try dsimp only at hSw); go_simp; (try with_reducible rfl))
  (try simp only [Act.put, nA, nB, nC])
  first | (refine wpAnyM_take 19 (v := ?_) rfl (by kernel_rfl) (fun _ _ _ h => h) (Or.inl ⟨by rfl, ?_⟩) (by assumption) ?_; rotate_left; focus ((intro wx hSw; (try dsimp only at hSw); go_simp; (try with_reducible rfl)))) | (refine wpAnyM_take 19 rfl (by kernel_rfl) (fun _ _ _ h => h) (Or.inr ⟨by rfl, rfl⟩) (by assumption) ?_)
  (try simp only [Act.put, nA, nB, nC])
  first | (refine wpAnyM_take 20 (v := ?_) rfl (by kernel_rfl) (fun _ _ _ h => h) (Or.inl ⟨by rfl, ?_⟩) (by assumption) ?_; rotate_left; focus ((intro wx hSw; refine Eq.trans (run_load_sub 42 (.tmp 30) (by rfl) pb 7 4 (by rfl) hSw.2.1 (by decide) _ Try.underlying42 rfl iqt) ?_; rw [show arrv 4 (fun i => p0 (7 + i)) = arrv 4 oneQ from arrv_congr (by decide)]))) | (refine wpAnyM_take 20 rfl (by kernel_rfl) (fun _ _ _ h => h) (Or.inr ⟨by rfl, rfl⟩) (by assumption) ?_)
  (try simp only [Act.put, nA, nB, nC])
  refine wpAnyM_oneS 21 rfl (by kernel_rfl) (fun K hK => ?_)
  go_simp
  (refine (qone_any _).mono ?_); rintro e w5 ⟨rfl, hb⟩; have HS2 := Lib.hid (HS.out.down hb); clear HS; have HS := HS2; clear HS2; clear hb
  (try dsimp only)
  (try simp only [Act.put, nA, nB, nC])
  clear hHeld
  refine hK.out _ _ ?_ (fun hHeld => ?_)
  · exact ⟨HS.out.a.s, HS.out.p, HS.out.a.fl.cell⟩
  clear hK K
  (try simp only [Act.put, nA, nB, nC])
  first | (refine wpAnyM_take 22 (v := ?_) rfl (by kernel_rfl) (fun _ _ _ h => h) (Or.inl ⟨by rfl, ?_⟩) (by assumption) ?_; rotate_left; focus ((intro wx hSw; refine Eq.trans (run_op_eqlVec Try.underlying42 (by kernel_rfl) (.tmp 31) (.tmp 32) (by rfl) (by rfl) (by rfl) HE.out.2.1) ?_; with_reducible rfl))) | (refine wpAnyM_take 22 rfl (by kernel_rfl) (fun _ _ _ h => h) (Or.inr ⟨by rfl, rfl⟩) (by assumption) ?_)
  (try simp only [Act.put, nA, nB, nC])
  refine wpAnyM_take 23 (v := ?_) rfl (by kernel_rfl) (fun _ _ _ h => h) (Or.inl ⟨by rfl, ?_⟩) (by assumption) ?_
  rotate_left
  · (intro wx hSw; (try dsimp only at hSw); go_simp; (try with_reducible rfl))
  (try simp only [Act.put, nA, nB, nC])
  refine wpAnyM_take 24 (v := ?_) rfl (by kernel_rfl) (fun _ _ _ h => h) (Or.inl ⟨by rfl, ?_⟩) (by assumption) ?_
  rotate_left
  · (intro wx hSw; (try dsimp only at hSw); go_simp; (try with_reducible rfl))
  (try simp only [Act.put, nA, nB, nC])
  first | (refine wpAnyM_take 25 (v := ?_) rfl (by kernel_rfl) (fun _ _ _ h => h) (Or.inl ⟨by rfl, ?_⟩) (by assumption) ?_; rotate_left; focus ((intro wx hSw; (try dsimp only at hSw); go_simp; (try with_reducible rfl)))) | (refine wpAnyM_take 25 rfl (by kernel_rfl) (fun _ _ _ h => h) (Or.inr ⟨by rfl, rfl⟩) (by assumption) ?_)
  (try simp only [Act.put, nA, nB, nC])
  first | (refine wpAnyM_take 26 (v := ?_) rfl (by kernel_rfl) (fun _ _ _ h => h) (Or.inl ⟨by rfl, ?_⟩) (by assumption) ?_; rotate_left; focus ((intro wx hSw; refine Eq.trans (run_load_sub 47 (.tmp 36) (by rfl) pb 11 9 (by rfl) hSw.2.1 (by decide) _ Try.underlying47 rfl im9) ?_; rw [show arrv 9 (fun i => p0 (11 + i)) = arrv 9 id9 from arrv_congr (by decide)]))) | (refine wpAnyM_take 26 rfl (by kernel_rfl) (fun _ _ _ h => h) (Or.inr ⟨by rfl, rfl⟩) (by assumption) ?_)
  (try simp only [Act.put, nA, nB, nC])
  first | (refine wpAnyM_take 27 (v := ?_) rfl (by kernel_rfl) (fun _ _ _ h => h) (Or.inl ⟨by rfl, ?_⟩) (by assumption) ?_; rotate_left; focus ((intro wx hSw; (try dsimp only at hSw); go_simp; (try with_reducible rfl)))) | (refine wpAnyM_take 27 rfl (by kernel_rfl) (fun _ _ _ h => h) (Or.inr ⟨by rfl, rfl⟩) (by assumption) ?_)
  (try simp only [Act.put, nA, nB, nC])
  refine wpAnyM_oneS 28 rfl (by kernel_rfl) (fun K hK => ?_)
  go_simp
  (refine (qone_any _).mono ?_); rintro e w6 ⟨rfl, hb⟩; have HS2 := Lib.hid (HS.out.down hb); clear HS; have HS := HS2; clear HS2; clear hb
  (try dsimp only)
  (try simp only [Act.put, nA, nB, nC])
  clear hHeld
  refine hK.out _ _ ?_ (fun hHeld => ?_)
  · exact ⟨HS.out.a.s, HS.out.p, HS.out.a.fl.cell⟩
  clear hK K
  (try simp only [Act.put, nA, nB, nC])
  refine wpAnyM_oneS 29 rfl (by kernel_rfl) (fun K hK => ?_)
  go_simp
  (refine (rest_of ⟨w.heap.size, 0, none⟩ _ HS.out.a.fl.cell HS.out.a.fl.free).mono ?_); rintro e w7 ⟨rfl, hu⟩; have HS2 := Lib.hid (HS.out.upd' hu); clear HS; have HS := HS2; clear HS2; clear hu
  (try dsimp only)
  (try simp only [Act.put, nA, nB, nC])
  clear hHeld
  refine hK.out _ _ ?_ (fun hHeld => ?_)
  · exact ⟨HS.out.a.s, HS.out.p, HS.out.a.fl.cell⟩
  clear hK K
  (try simp only [Act.put, nA, nB, nC])
  first | (refine wpAnyM_take 30 (v := ?_) rfl (by kernel_rfl) (fun _ _ _ h => h) (Or.inl ⟨by rfl, ?_⟩) (by assumption) ?_; rotate_left; focus ((intro wx hSw; refine Eq.trans (run_op_eqlVec Try.underlying47 (by kernel_rfl) (.tmp 37) (.tmp 40) (by rfl) (by rfl) (by rfl) HE.out.2.2) ?_; with_reducible rfl))) | (refine wpAnyM_take 30 rfl (by kernel_rfl) (fun _ _ _ h => h) (Or.inr ⟨by rfl, rfl⟩) (by assumption) ?_)
  (try simp only [Act.put, nA, nB, nC])
  refine wpAnyM_take 31 (v := ?_) rfl (by kernel_rfl) (fun _ _ _ h => h) (Or.inl ⟨by rfl, ?_⟩) (by assumption) ?_
  rotate_left
  · (intro wx hSw; (try dsimp only at hSw); go_simp; (try with_reducible rfl))
  (try simp only [Act.put, nA, nB, nC])
  refine wpAnyM_take 32 (v := ?_) rfl (by kernel_rfl) (fun _ _ _ h => h) (Or.inl ⟨by rfl, ?_⟩) (by assumption) ?_
  rotate_left
  · (intro wx hSw; (try dsimp only at hSw); go_simp; (try with_reducible rfl))
  (try simp only [Act.put, nA, nB, nC])
  first | (refine wpAnyM_take 33 (v := ?_) rfl (by kernel_rfl) (fun _ _ _ h => h) (Or.inl ⟨by rfl, ?_⟩) (by assumption) ?_; rotate_left; focus ((intro wx hSw; (try dsimp only at hSw); go_simp; (try with_reducible rfl)))) | (refine wpAnyM_take 33 rfl (by kernel_rfl) (fun _ _ _ h => h) (Or.inr ⟨by rfl, rfl⟩) (by assumption) ?_)
  (try simp only [Act.put, nA, nB, nC])
  first | (refine wpAnyM_take 34 (v := ?_) rfl (by kernel_rfl) (fun _ _ _ h => h) (Or.inl ⟨by rfl, ?_⟩) (by assumption) ?_; rotate_left; focus ((intro wx hSw; (try dsimp only at hSw); go_simp; (try with_reducible rfl)))) | (refine wpAnyM_take 34 rfl (by kernel_rfl) (fun _ _ _ h => h) (Or.inr ⟨by rfl, rfl⟩) (by assumption) ?_)
  (try simp only [Act.put, nA, nB, nC])
  first | (refine wpAnyM_take 35 (v := ?_) rfl (by kernel_rfl) (fun _ _ _ h => h) (Or.inl ⟨by rfl, ?_⟩) (by assumption) ?_; rotate_left; focus ((intro wx hSw; have h0 := hSw.2.1.cell (i := 6) (by decide); rw [show p0 6 = -84238486 from rfl] at h0; go_simp; (try with_reducible rfl)))) | (refine wpAnyM_take 35 rfl (by kernel_rfl) (fun _ _ _ h => h) (Or.inr ⟨by rfl, rfl⟩) (by assumption) ?_)
  (try simp only [Act.put, nA, nB, nC])
  first | (refine wpAnyM_take 36 (v := ?_) rfl (by kernel_rfl) (fun _ _ _ h => h) (Or.inl ⟨by rfl, ?_⟩) (by assumption) ?_; rotate_left; focus ((intro wx hSw; (try dsimp only at hSw); go_simp; (try with_reducible rfl)))) | (refine wpAnyM_take 36 rfl (by kernel_rfl) (fun _ _ _ h => h) (Or.inr ⟨by rfl, rfl⟩) (by assumption) ?_)
  (try simp only [Act.put, nA, nB, nC])
  refine wpAnyM_take 37 (v := ?_) rfl (by kernel_rfl) (fun _ _ _ h => h) (Or.inl ⟨by rfl, ?_⟩) (by assumption) ?_
  rotate_left
  · (intro wx hSw; (try dsimp only at hSw); go_simp; (try with_reducible rfl))
  (try simp only [Act.put, nA, nB, nC])
  refine wpAnyM_take 38 (v := ?_) rfl (by kernel_rfl) (fun _ _ _ h => h) (Or.inl ⟨by rfl, ?_⟩) (by assumption) ?_
  rotate_left
  · (intro wx hSw; (try dsimp only at hSw); go_simp; (try with_reducible rfl))
  (try simp only [Act.put, nA, nB, nC])
  first | (refine wpAnyM_take 39 (v := ?_) rfl (by kernel_rfl) (fun _ _ _ h => h) (Or.inl ⟨by rfl, ?_⟩) (by assumption) ?_; rotate_left; focus ((intro wx hSw; (try dsimp only at hSw); go_simp; (try with_reducible rfl)))) | (refine wpAnyM_take 39 rfl (by kernel_rfl) (fun _ _ _ h => h) (Or.inr ⟨by rfl, rfl⟩) (by assumption) ?_)
  (try simp only [Act.put, nA, nB, nC])
  first | (refine wpAnyM_take 40 (v := ?_) rfl (by kernel_rfl) (fun _ _ _ h => h) (Or.inl ⟨by rfl, ?_⟩) (by assumption) ?_; rotate_left; focus ((intro wx hSw; (try dsimp only at hSw); go_simp; (try with_reducible rfl)))) | (refine wpAnyM_take 40 rfl (by kernel_rfl) (fun _ _ _ h => h) (Or.inr ⟨by rfl, rfl⟩) (by assumption) ?_)
  (try simp only [Act.put, nA, nB, nC])
  first | (refine wpAnyM_take 41 (v := ?_) rfl (by kernel_rfl) (fun _ _ _ h => h) (Or.inl ⟨by rfl, ?_⟩) (by assumption) ?_; rotate_left; focus ((intro wx hSw; (try dsimp only at hSw); go_simp; (try with_reducible rfl)))) | (refine wpAnyM_take 41 rfl (by kernel_rfl) (fun _ _ _ h => h) (Or.inr ⟨by rfl, rfl⟩) (by assumption) ?_)
  (try simp only [Act.put, nA, nB, nC])
  first | (refine wpAnyM_take 42 (v := ?_) rfl (by kernel_rfl) (fun _ _ _ h => h) (Or.inl ⟨by rfl, ?_⟩) (by assumption) ?_; rotate_left; focus ((intro wx hSw; have h0 := hSw.2.2; go_simp; (try with_reducible rfl)))) | (refine wpAnyM_take 42 rfl (by kernel_rfl) (fun _ _ _ h => h) (Or.inr ⟨by rfl, rfl⟩) (by assumption) ?_)
  (try simp only [Act.put, nA, nB, nC])
  first | (refine wpAnyM_take 43 (v := ?_) rfl (by kernel_rfl) (fun _ _ _ h => h) (Or.inl ⟨by rfl, ?_⟩) (by assumption) ?_; rotate_left; focus ((intro wx hSw; (try dsimp only at hSw); go_simp; (try with_reducible rfl)))) | (refine wpAnyM_take 43 rfl (by kernel_rfl) (fun _ _ _ h => h) (Or.inr ⟨by rfl, rfl⟩) (by assumption) ?_)
  (try simp only [Act.put, nA, nB, nC])
  refine wpAnyM_take 44 (v := ?_) rfl (by kernel_rfl) (fun _ _ _ h => h) (Or.inl ⟨by rfl, ?_⟩) (by assumption) ?_
  rotate_left
  · (intro wx hSw; (try dsimp only at hSw); go_simp; (try with_reducible rfl))
  (try simp only [Act.put, nA, nB, nC])
  refine wpAnyM_one 45 rfl (by kernel_rfl) (fun K hK => ?_)
  go_simp
  refine hK.out _ _ (.inl (by kernel_rfl)) (fun _ => ?_)
  clear hK K
  (try simp only [Act.put, nA, nB, nC])
  refine wpAnyM_done (by kernel_rfl) ?_ _
  go_wp2_with fail
  go_ret
  exact ⟨rfl, HS.out.a.below⟩
end Go.Proofs.Ytnnjcdbliaecgaa
/- The walk of StrapGood. -/
namespace Go.Proofs.Ytnnjcdbliaecgaa
open Go.RowKit
set_option maxRecDepth 100000
theorem keepI_hi (X : Nat → Int) {j : Nat} (h : 4 ≤ j) : keepI X j = X j := by
  unfold keepI
  split
  · rfl
  · unfold turnd; rw [if_neg (by omega)]
theorem stS_hi (S P : Nat → Int) {j : Nat} (h : 10 ≤ j) : stS S P j = S j := by
  unfold stS withF
  rw [if_neg (by omega), if_neg (by omega), if_neg (by omega)]
/-- Behind a step the biases, fields, wind are as they were kept. -/
theorem step_tail (S I : Nat → Int) {j : Nat} (h : 10 ≤ j) (hj : j < 24) : stepN S I j = keepF S j := by
  have hb := (good_parts (keep_good S)).1 j hj
  show clmF (keepI (stS (keepF S) (spF (keepF S) I))) j = keepF S j
  unfold clmF
  rw [if_neg (by omega), keepI_hi _ (by omega), stS_hi _ _ h]
  exact (clampV_id hb).1
theorem step_good (S I : Nat → Int) : goodB (stepN S I) = true := keep_good _
/-- The law's blocks. -/
structure GdR (bc : Nat) (h : Bool) (S I : Nat → Int) (w wr : World) : Prop where
  below : Below w.heap.size w wr
  fl : Flg wr bc h
  s : Blk wr w.heap.size 27 24 S
  i : Blk wr (w.heap.size + 1) 31 8 I
  lt : w.heap.size + 1 < bc
section
variable {bc kb xb : Nat} {h h' : Bool} {S I F G : Nat → Int} {w wr w' : World}
theorem GdR.down (s : GdR bc h S I w wr) (k : Below wr.heap.size wr w') : GdR bc h S I w w' := ⟨s.below.trans (k.mono s.below.size), s.fl.below k, s.s.below k, s.i.below k, s.lt⟩
theorem GdR.upd' (s : GdR bc h S I w wr) (u : Upd ⟨bc, 0, none⟩ h' wr w') : GdR bc h' S I w w' := by
  have := s.lt
  exact ⟨below_of_upd s.below u (by simp only; omega), s.fl.hit u, s.s.upd u (by simp only; omega), s.i.upd u (by simp only; omega), s.lt⟩
theorem GdR.row (s : GdR bc h S I w wr) {b : Nat} (hb : bc < b) (cs : Array Value) : GdR bc h S I w (wr.setRow b cs) := by
  have := s.lt
  exact ⟨below_row s.below (by omega) _, s.fl.row _ (by omega), s.s.setRow_other _ (by omega), s.i.setRow_other _ (by omega), s.lt⟩
structure GeR (bc kb : Nat) (h : Bool) (S I F : Nat → Int) (w wr : World) : Prop where
  a : GdR bc h S I w wr
  k : Blk wr kb 27 24 F
  lt : bc < kb
theorem GeR.down (s : GeR bc kb h S I F w wr) (k : Below wr.heap.size wr w') : GeR bc kb h S I F w w' := ⟨s.a.down k, s.k.below k, s.lt⟩
theorem GeR.upd' (s : GeR bc kb h S I F w wr) (u : Upd ⟨bc, 0, none⟩ h' wr w') : GeR bc kb h' S I F w w' := ⟨s.a.upd' u, s.k.upd u (by have := s.lt; simp only; omega), s.lt⟩
structure GfR (bc kb xb : Nat) (h : Bool) (S I F G : Nat → Int) (w wr : World) : Prop where
  a : GeR bc kb h S I F w wr
  x : Blk wr xb 27 24 G
  lt : kb < xb
theorem GfR.down (s : GfR bc kb xb h S I F G w wr) (k : Below wr.heap.size wr w') : GfR bc kb xb h S I F G w w' := ⟨s.a.down k, s.x.below k, s.lt⟩
theorem ge_new (s : GdR bc h S I w wr) (F : Nat → Int) : Blk (wr.alloc (.cells #[.int .i64 0, .int .i64 0, .int .i64 0, .int .i64 0, .int .i64 0, .int .i64 0, .int .i64 0, .int .i64 0, .int .i64 0, .int .i64 0, .int .i64 0, .int .i64 0, .int .i64 0, .int .i64 0, .int .i64 0, .int .i64 0, .int .i64 0, .int .i64 0, .int .i64 0, .int .i64 0, .int .i64 0, .int .i64 0, .int .i64 0, .int .i64 0] 27)) wr.heap.size 27 24 (fun _ => 0) ∧ GeR bc wr.heap.size h S I F w ((wr.alloc (.cells #[.int .i64 0, .int .i64 0, .int .i64 0, .int .i64 0, .int .i64 0, .int .i64 0, .int .i64 0, .int .i64 0, .int .i64 0, .int .i64 0, .int .i64 0, .int .i64 0, .int .i64 0, .int .i64 0, .int .i64 0, .int .i64 0, .int .i64 0, .int .i64 0, .int .i64 0, .int .i64 0, .int .i64 0, .int .i64 0, .int .i64 0, .int .i64 0] 27)).setRow wr.heap.size (arrv 24 F)) := by
  have b0 : Blk (wr.alloc (.cells #[.int .i64 0, .int .i64 0, .int .i64 0, .int .i64 0, .int .i64 0, .int .i64 0, .int .i64 0, .int .i64 0, .int .i64 0, .int .i64 0, .int .i64 0, .int .i64 0, .int .i64 0, .int .i64 0, .int .i64 0, .int .i64 0, .int .i64 0, .int .i64 0, .int .i64 0, .int .i64 0, .int .i64 0, .int .i64 0, .int .i64 0, .int .i64 0] 27)) wr.heap.size 27 24 (fun _ => 0) := by rw [zvec24]; exact Blk.new _ _ _ _
  exact ⟨b0, (s.down ((Below.refl _ _).alloc (Nat.le_refl _) _)).row s.fl.lt _, b0.setRow F, s.fl.lt⟩
theorem gf_new (s : GeR bc kb h S I F w wr) (G : Nat → Int) : Blk (wr.alloc (.cells #[.int .i64 0, .int .i64 0, .int .i64 0, .int .i64 0, .int .i64 0, .int .i64 0, .int .i64 0, .int .i64 0, .int .i64 0, .int .i64 0, .int .i64 0, .int .i64 0, .int .i64 0, .int .i64 0, .int .i64 0, .int .i64 0, .int .i64 0, .int .i64 0, .int .i64 0, .int .i64 0, .int .i64 0, .int .i64 0, .int .i64 0, .int .i64 0] 27)) wr.heap.size 27 24 (fun _ => 0) ∧ GfR bc kb wr.heap.size h S I F G w ((wr.alloc (.cells #[.int .i64 0, .int .i64 0, .int .i64 0, .int .i64 0, .int .i64 0, .int .i64 0, .int .i64 0, .int .i64 0, .int .i64 0, .int .i64 0, .int .i64 0, .int .i64 0, .int .i64 0, .int .i64 0, .int .i64 0, .int .i64 0, .int .i64 0, .int .i64 0, .int .i64 0, .int .i64 0, .int .i64 0, .int .i64 0, .int .i64 0, .int .i64 0] 27)).setRow wr.heap.size (arrv 24 G)) := by
  have b0 : Blk (wr.alloc (.cells #[.int .i64 0, .int .i64 0, .int .i64 0, .int .i64 0, .int .i64 0, .int .i64 0, .int .i64 0, .int .i64 0, .int .i64 0, .int .i64 0, .int .i64 0, .int .i64 0, .int .i64 0, .int .i64 0, .int .i64 0, .int .i64 0, .int .i64 0, .int .i64 0, .int .i64 0, .int .i64 0, .int .i64 0, .int .i64 0, .int .i64 0, .int .i64 0] 27)) wr.heap.size 27 24 (fun _ => 0) := by rw [zvec24]; exact Blk.new _ _ _ _
  have s2 := s.down ((Below.refl wr.heap.size wr).alloc (Nat.le_refl _) (.cells #[.int .i64 0, .int .i64 0, .int .i64 0, .int .i64 0, .int .i64 0, .int .i64 0, .int .i64 0, .int .i64 0, .int .i64 0, .int .i64 0, .int .i64 0, .int .i64 0, .int .i64 0, .int .i64 0, .int .i64 0, .int .i64 0, .int .i64 0, .int .i64 0, .int .i64 0, .int .i64 0, .int .i64 0, .int .i64 0, .int .i64 0, .int .i64 0] 27))
  exact ⟨b0, ⟨s2.a.row s.a.fl.lt _, s2.k.setRow_other _ (by have := s.k.lt; omega), s.lt⟩, b0.setRow G, s.k.lt⟩
theorem gd_start (S I : Nat → Int) (w w1 : World) (hb : Below ((w.alloc (.cells (arrv 24 S) 27)).alloc (.cells (arrv 8 I) 31)).heap.size ((w.alloc (.cells (arrv 24 S) 27)).alloc (.cells (arrv 8 I) 31)) w1) :
    GdR w1.heap.size false S I w (w1.alloc (.cells #[.bool false] 25)) := by
  have bl : Below w.heap.size w ((w.alloc (.cells (arrv 24 S) 27)).alloc (.cells (arrv 8 I) 31)) := by (repeat (first | with_reducible exact Below.refl _ _ | with_reducible apply Below.drew | (with_reducible refine below_drewN ?_ _) | (with_reducible refine Below.alloc ?_ (by (try simp) <;> omega) _) | (with_reducible refine Below.setCell ?_ (by (try simp) <;> omega) _)))
  have b2 : Below w.heap.size w w1 := bl.trans (hb.mono bl.size)
  have z := hb.size
  simp at z
  exact ⟨b2.alloc b2.size _, Flg.new _ _, (((Blk.new w _ 24 S).alloc _).below hb).alloc _, ((Blk.new1 w _ _ 8 I).below hb).alloc _, by omega⟩
end
set_option maxHeartbeats 16000000 in
theorem good16_walk (S I : Nat → Int) (w : World) : Calls Try.prog 4 #[.agg (arrv 24 S), .agg (arrv 8 I)] w fun e w' => e = .returned (.bool true) ∧ Below w.heap.size w w' := by
  have GS := Lib.hid (fun (w1 : World) hb => gd_start S I w w1 hb)
  have ET := Lib.hid (fun (j : Nat) (h : 10 ≤ j) (hj : j < 24) => step_tail S I h hj)
  have EG := Lib.hid (step_good S I)
  go_enter Try.func4, Try.ntmps4
  go_upto_region 3 with (go_at_call 8; (refine (awake16_any _).mono ?_); rintro e w1 ⟨rfl, hb1⟩)
  have S0 := Lib.hid (GS.out w1 hb1)
  clear hb1 GS
  go_upto_region 4 with fail
  generalize w1.alloc (.cells #[.bool false] 25) = W0 at *
  obtain ⟨bc, hbc⟩ : ∃ x, w1.heap.size = x := ⟨_, rfl⟩
  rw [hbc] at S0 ⊢
  clear hbc
  have P0 := S0.out.s
  refine wp_region_lit ?_
  refine wpList_val (v := ?_) rfl ?_ ?_
  rotate_left
  · (go_simp; (try (first | with_reducible rfl | (constructor <;> with_reducible rfl))))
  (try simp only [Act.put, nA, nB, nC])
  refine wpList_val (v := ?_) rfl ?_ ?_
  rotate_left
  · refine Eq.trans (run_load_row 27 (.tmp 2) (by rfl) (w.heap.size) (by rfl) _ _ _ _ (P0) Try.underlying27 rfl (ist.trans (by rw [arrv_size]))) ?_; with_reducible rfl
  (try simp only [Act.put, nA, nB, nC])
  refine wpList_step (fun K hK => ?_)
  go_simp
  (refine (keep_any ⟨bc, 0, none⟩ false S _ S0.out.fl.cell S0.out.fl.free).mono ?_); rintro e w2 ⟨rfl, hu⟩; have S1 := Lib.hid (S0.out.upd' hu); clear hu S0 P0; have NB := Lib.hid (ge_new S1.out (keepF S))
  (try dsimp only)
  (try simp only [Act.put, nA, nB, nC])
  refine hK _ _ ?_
  clear hK K
  refine wpList_act (v := ?_) (w' := ?_) rfl ?_ ?_
  rotate_left 2
  · (go_simp; (try (first | with_reducible rfl | (constructor <;> with_reducible rfl))))
  (try simp only [Act.put, nA, nB, nC])
  refine wpList_done (w' := ?_) rfl ?_ ?_
  rotate_left
  · (refine Eq.trans (run_store_row 27 (.tmp 6) (.tmp 15) (by rfl) (w2.heap.size) (by rfl) (by rfl) NB.out.1 (ist.trans rfl)) ?_; with_reducible rfl)
  (try simp only [Act.put, nA, nB, nC])
  refine wpList_nil ?_
  have S2 := Lib.hid NB.out.2
  generalize (w2.alloc (.cells #[.int .i64 0, .int .i64 0, .int .i64 0, .int .i64 0, .int .i64 0, .int .i64 0, .int .i64 0, .int .i64 0, .int .i64 0, .int .i64 0, .int .i64 0, .int .i64 0, .int .i64 0, .int .i64 0, .int .i64 0, .int .i64 0, .int .i64 0, .int .i64 0, .int .i64 0, .int .i64 0, .int .i64 0, .int .i64 0, .int .i64 0, .int .i64 0] 27)).setRow w2.heap.size (arrv 24 (keepF S)) = W2 at *
  obtain ⟨kb, hkb⟩ : ∃ x, w2.heap.size = x := ⟨_, rfl⟩
  rw [hkb] at S2 ⊢
  clear hkb NB S1
  have P0 := S2.out.a.s
  have I0 := S2.out.a.i
  go_upto_region 5 with fail
  refine wp_region_lit ?_
  refine wpList_val (v := ?_) rfl ?_ ?_
  rotate_left
  · (go_simp; (try (first | with_reducible rfl | (constructor <;> with_reducible rfl))))
  (try simp only [Act.put, nA, nB, nC])
  refine wpList_val (v := ?_) rfl ?_ ?_
  rotate_left
  · refine Eq.trans (run_load_row 27 (.tmp 2) (by rfl) (w.heap.size) (by rfl) _ _ _ _ (P0) Try.underlying27 rfl (ist.trans (by rw [arrv_size]))) ?_; with_reducible rfl
  (try simp only [Act.put, nA, nB, nC])
  refine wpList_val (v := ?_) rfl ?_ ?_
  rotate_left
  · (refine Eq.trans (run_load_row 31 (.tmp 3) (by rfl) (w.heap.size + 1) (by rfl) _ _ _ _ I0 Try.underlying31 rfl (iimu.trans (by rw [arrv_size]))) ?_; with_reducible rfl)
  (try simp only [Act.put, nA, nB, nC])
  refine wpList_step (fun K hK => ?_)
  go_simp
  (refine (step_any2 ⟨bc, 0, none⟩ _ S I _ S2.out.a.fl.cell S2.out.a.fl.free).mono ?_); rintro e w3 ⟨rfl, hu⟩; have S3 := Lib.hid (S2.out.upd' hu); clear hu S2 P0 I0; have NB := Lib.hid (gf_new S3.out (stepN S I))
  (try dsimp only)
  (try simp only [Act.put, nA, nB, nC])
  refine hK _ _ ?_
  clear hK K
  refine wpList_act (v := ?_) (w' := ?_) rfl ?_ ?_
  rotate_left 2
  · (go_simp; (try (first | with_reducible rfl | (constructor <;> with_reducible rfl))))
  (try simp only [Act.put, nA, nB, nC])
  refine wpList_done (w' := ?_) rfl ?_ ?_
  rotate_left
  · (refine Eq.trans (run_store_row 27 (.tmp 7) (.tmp 19) (by rfl) (w3.heap.size) (by rfl) (by rfl) NB.out.1 (ist.trans rfl)) ?_; with_reducible rfl)
  (try simp only [Act.put, nA, nB, nC])
  refine wpList_nil ?_
  have S4 := Lib.hid NB.out.2
  generalize (w3.alloc (.cells #[.int .i64 0, .int .i64 0, .int .i64 0, .int .i64 0, .int .i64 0, .int .i64 0, .int .i64 0, .int .i64 0, .int .i64 0, .int .i64 0, .int .i64 0, .int .i64 0, .int .i64 0, .int .i64 0, .int .i64 0, .int .i64 0, .int .i64 0, .int .i64 0, .int .i64 0, .int .i64 0, .int .i64 0, .int .i64 0, .int .i64 0, .int .i64 0] 27)).setRow w3.heap.size (arrv 24 (stepN S I)) = W4 at *
  obtain ⟨xb, hxb⟩ : ∃ x, w3.heap.size = x := ⟨_, rfl⟩
  rw [hxb] at S4 ⊢
  clear hxb NB S3
  obtain ⟨F, hF⟩ : ∃ x, keepF S = x := ⟨_, rfl⟩
  obtain ⟨G, hG⟩ : ∃ x, stepN S I = x := ⟨_, rfl⟩
  obtain ⟨H, hH⟩ : ∃ x, (false || keepH S || stepH2 S I) = x := ⟨_, rfl⟩
  rw [hF, hG, hH] at S4
  rw [hF, hG] at ET
  rw [hG] at EG
  rw [hF, hG]
  clear hF hG hH
  go_wp2_with fail
  go_loopw [8] (fun i wr => ∃ j : Nat, 10 ≤ j ∧ j ≤ 24 ∧ i = .int .i64 j ∧ Hid (GfR bc kb xb H S I F G w wr)) (fun i _ => 24 - (intOf i).toNat)
  case atStart => exact ⟨10, by omega, by omega, rfl, S4⟩
  case round =>
    obtain ⟨j, hj0, hj, rfl, R⟩ := hrel
    clear S4
    by_cases hlt : j < 24
    · have g1 : decide ((j : Int) < 24) = true := by simp; omega
      have j0 : (0 : Int) ≤ (j : Int) := Int.natCast_nonneg _
      have j1 : (j : Int) < 24 := by omega
      have rx := R.out.x.cell hlt
      have rk := R.out.a.k.cell hlt
      rw [ET.out j hj0 hlt] at rx
      obtain ⟨V, hV⟩ : ∃ x, F j = x := ⟨_, rfl⟩
      rw [hV] at rx rk
      have q1 : (V != V) = false := by simp
      clear hV
      go_upto_region 9 with fail
      go_quiet (fail)
      go_wp2_with fail
      go_roundw
      case rel => exact ⟨j + 1, by omega, by omega, by go_num, Lib.hid (R.out.down (below_drewN (Below.refl _ _) _))⟩
      case measure => simp [intOf]; omega
    · have hj24 : j = 24 := by omega
      subst hj24
      have g1 : decide (((24 : Nat) : Int) < 24) = false := by simp
      have P9 := R.out.x
      have GC := fun (x : World) => sgood_any G x
      rw [EG.out] at GC
      have GC := Lib.hid GC
      go_wp2_with (first | (refine wpList_load_row rfl 27 _ rfl (xb) rfl 27 _ (0, 0) _ (P9) Try.underlying27 rfl (ist.trans (by rw [arrv_size])) ?_) | (go_at_call 12; (refine (GC.out _).mono ?_); rintro e w9 ⟨rfl, hb⟩))
      go_ret
      exact ⟨rfl, Below.after R.out.a.a.below hb⟩
end Go.Proofs.Ytnnjcdbliaecgaa
/- Arguments that are arrays of int64 (or structs of such): opened as numbers; a slice of int64 too. Of no one program. -/
namespace Go.Proofs.Ytnnjcdbliaecgaa
open Go.RowKit Go.ChangeShapes
def AllInt (cs : List Value) : Prop := ∀ v, v ∈ cs → ∃ z, v = .int .i64 z ∧ (Lit.int .i64 z).wf = true
section
variable {H : Type} {enc : TypeId × Value → H} {P : Program} {w : World} {base : Nat} {spare : Nat → Bool} {held : Bool}
/-- What reads as t is int64 numbers alone. -/
def Ints (enc : TypeId × Value → H) (P : Program) (w : World) (base : Nat) (spare : Nat → Bool) (held : Bool) (t : TypeId) : Prop :=
  ∀ fuel cs x, DataW.trod enc P w base spare held fuel t cs = some x → AllInt cs ∧ x.2 = []
theorem ints_int {t : TypeId} (hu : P.underlying t = some (.int .i64)) : Ints enc P w base spare held t := by
  intro fuel cs x h
  obtain ⟨n, h1, h2, h3⟩ := DataW.trod_int hu h
  subst h1
  refine ⟨fun v hv => ?_, ?_⟩
  · rw [List.mem_singleton] at hv; exact ⟨n, hv, h3⟩
  · rw [h2]
theorem ints_array {t e : TypeId} {n m : Nat} (hu : P.underlying t = some (.array n e)) (hc : P.cellsOf t = n * m) (hm : P.cellsOf e = m) (he : Ints enc P w base spare held e) : Ints enc P w base spare held t := by
  intro fuel cs x h
  obtain ⟨xs, k, rfl, rfl, hl, hx, hi⟩ := DataW.trod_array hu h
  rw [hc] at hl
  rw [hm] at hi
  refine ⟨fun v hv => ?_, ?_⟩
  · obtain ⟨q, hq, rfl⟩ := List.getElem_of_mem hv
    have hm0 : 0 < m := by
      rcases Nat.eq_zero_or_pos m with h0 | h0
      · subst h0; omega
      · exact h0
    have hqm : q / m < n := by rw [Nat.div_lt_iff_lt_mul hm0]; omega
    have hh := hi (q / m) hqm
    rw [List.getElem?_eq_getElem (by omega)] at hh
    refine (he _ _ _ hh).1 _ ?_
    rw [List.mem_iff_getElem?]
    refine ⟨q % m, ?_⟩
    rw [List.getElem?_take_of_lt (Nat.mod_lt _ hm0), List.getElem?_drop, Nat.mul_comm, Nat.div_add_mod]
    exact List.getElem?_eq_getElem hq
  · show xs.flatMap (·.2) = []
    rw [List.flatMap_eq_nil_iff]
    intro y hy
    obtain ⟨q, hq, rfl⟩ := List.getElem_of_mem hy
    have hh := hi q (by omega)
    rw [List.getElem?_eq_getElem hq] at hh
    exact (he _ _ _ hh).2
/-- A struct whose fields cover its cells. -/
theorem ints_struct {t : TypeId} {fs : Array Field} {n : Nat} (hu : P.underlying t = some (.struct fs)) (hc : P.cellsOf t = n)
    (hcov : ∀ q, q < n → ∃ (j : Nat) (f : Field), fs[j]? = some f ∧ f.offset ≤ q ∧ q < f.offset + P.cellsOf f.type)
    (hI : ∀ (j : Nat) (f : Field), fs[j]? = some f → Ints enc P w base spare held f.type) : Ints enc P w base spare held t := by
  intro fuel cs x h
  obtain ⟨xs, k, rfl, rfl, hl, hx, hi⟩ := DataW.trod_struct hu h
  rw [hc] at hl
  refine ⟨fun v hv => ?_, ?_⟩
  · obtain ⟨q, hq, rfl⟩ := List.getElem_of_mem hv
    obtain ⟨j, f, hj, h1, h2⟩ := hcov q (by omega)
    have hjl : j < xs.length := by rw [hx]; exact (Array.getElem?_eq_some_iff.1 hj).1
    have g := hi j f hj
    rw [List.getElem?_eq_getElem hjl] at g
    refine (hI j f hj _ _ _ g).1 _ ?_
    rw [List.mem_iff_getElem?]
    refine ⟨q - f.offset, ?_⟩
    rw [List.getElem?_take_of_lt (by omega), List.getElem?_drop, show f.offset + (q - f.offset) = q by omega]
    exact List.getElem?_eq_getElem hq
  · show xs.flatMap (·.2) = []
    rw [List.flatMap_eq_nil_iff]
    intro y hy
    obtain ⟨q, hq, rfl⟩ := List.getElem_of_mem hy
    have hq2 : q < fs.size := by rw [← hx]; exact hq
    have g := hi q fs[q] (Array.getElem?_eq_getElem hq2)
    rw [List.getElem?_eq_getElem hq] at g
    exact (hI q _ (Array.getElem?_eq_getElem hq2) _ _ _ g).2
/-- A value of such a type: an aggregate of numbers. -/
theorem open_vec {r : Reach} {b0 n : Nat} {t : TypeId} {v : Value} {d : DataW H} {ps : List MemPlace} (hI : Ints enc P w base spare held t) (hc : P.cellsOf t = n)
    (hu : ∃ u, P.underlying t = some u ∧ (match u with | .struct _ | .array _ _ => true | _ => false) = true) (hval : Value.okWide P w r b0 t v) (hd : DataW.Trod enc P w base spare held t v d ps) :
    ∃ f : Nat → Int, v = .agg (arrv n f) ∧ (∀ i, -9223372036854775808 ≤ f i ∧ f i ≤ 9223372036854775807) ∧ ps = [] := by
  obtain ⟨u, hu1, hu2⟩ := hu
  have hv : ∃ cs, v = .agg cs ∧ cs.size = P.cellsOf t := by
    unfold Value.okWide at hval
    rw [hu1] at hval
    cases u <;> simp at hu2 hval <;> (obtain ⟨cs, h1, h2, _⟩ := hval; exact ⟨cs, h1, h2⟩)
  obtain ⟨cs, rfl, hs⟩ := hv
  rw [hc] at hs
  obtain ⟨fuel, hf⟩ := hd
  obtain ⟨hA, hp⟩ := hI _ _ _ hf
  have hA' : ∀ i, i < n → ∃ z, cs[i]? = some (.int .i64 z) ∧ (Lit.int .i64 z).wf = true := by
    intro i hi
    have hm : cs[i]'(by omega) ∈ (Value.agg cs).cells.toList := by simp [Value.cells]
    obtain ⟨z, hz, hw⟩ := hA _ hm
    exact ⟨z, by rw [Array.getElem?_eq_getElem (by omega), hz], hw⟩
  refine ⟨fun i => if h : i < n then Classical.choose (hA' i h) else 0, ?_, fun i => ?_, hp⟩
  · congr 1
    apply Array.ext_getElem?
    intro i
    by_cases hi : i < n
    · rw [arrv_get hi]
      simp only [dif_pos hi]
      exact (Classical.choose_spec (hA' i hi)).1
    · rw [Array.getElem?_eq_none (by omega), Array.getElem?_eq_none (by rw [arrv_size]; omega)]
  · by_cases hi : i < n
    · simp only [dif_pos hi]
      exact Go.bounds_i64 (Classical.choose_spec (hA' i hi)).2
    · simp only [dif_neg hi]; omega
end
end Go.Proofs.Ytnnjcdbliaecgaa
/- The join of a law: arguments that read before the call read behind it, if nothing that was there has turned. -/
namespace Go.Proofs.Ytnnjcdbliaecgaa
open Go.ChangeShapes Go.WideShapes Go.ChangeAt Go.RowKit
theorem trodAll_stays {H : Type} {enc : TypeId × Value → H} {P : Program} (hl : laidOutB P = true) {W W' : World} (hb : Below W.heap.size W W') {sp : Nat → Bool} : ∀ {ts : List TypeId} {vs : List Value} {ds : List (DataW H)} {p : List MemPlace},
    (ts.all fun t => P.readableRec t && decide (t < P.types.size)) = true → DataW.TrodAll enc P W 0 (fun _ => true) true ts vs ds p → (∀ x ∈ p, x.block < W.heap.size) → (∀ x ∈ p, sp x.block = true) → DataW.TrodAll enc P W' 0 sp true ts vs ds p
  | [], [], [], _, _, h, _, _ => h
  | t :: ts, v :: vs, d :: ds, p, ht, h, hlt, hsp => by
    obtain ⟨q, r, h1, h2, rfl⟩ := h
    rw [List.all_cons, Bool.and_eq_true, Bool.and_eq_true, decide_eq_true_eq] at ht
    exact ⟨q, r, WideElems.Trod_stays hl ht.1.1 ht.1.2 h1 (fun x hx => hb.same (hlt x (List.mem_append_left _ hx))) (fun x hx => hsp x (List.mem_append_left _ hx)),
      trodAll_stays hl hb ht.2 h2 (fun x hx => hlt x (List.mem_append_right _ hx)) (fun x hx => hsp x (List.mem_append_right _ hx)), rfl⟩
  | [], _ :: _, _, _, _, h, _, _ => by cases ‹List (DataW H)› <;> exact h.elim
  | [], [], _ :: _, _, _, h, _, _ => h.elim
  | _ :: _, [], _, _, _, h, _, _ => by cases ‹List (DataW H)› <;> exact h.elim
  | _ :: _, _ :: _, [], _, _, h, _, _ => h.elim
/-- What a law owes behind the call: it answers true, and nothing that was there has turned. -/
theorem law_post {H : Type} {enc : TypeId × Value → H} {P : Program} {f : Func} {s : ChangeSpec} {apart fresh handsOn again : Bool} {W W' : World} {args : Array Value} {ds gs : List (DataW H)} {before : List MemPlace} {tb : TypeId}
    (hW : DataW.Whole enc P f.params.toList s.vars apart W args.toList ds gs before) (hv : s.vars = []) (hfn : s.fn H ds = { results := [.lit (.bool true)], args := ds })
    (hu : P.underlying tb = some .bool) (hr : f.resultTypes = #[tb]) (hl : laidOutB P = true) (hts : (f.params.toList.all fun t => P.readableRec t && decide (t < P.types.size)) = true) (hb : Below W.heap.size W W') :
    s.post enc P f apart fresh handsOn again W args (.bool true) W' := by
  have hlt : ∀ x ∈ before, x.block < W.heap.size := fun x hx => hW.lt x hx
  have hW0 := hW
  obtain ⟨p, q, hA, hV, rfl, hfz, hnd⟩ := hW
  rw [hv] at hV
  obtain ⟨rfl, rfl⟩ := trodVars_none hV
  rw [List.append_nil] at hlt
  have hargs : ∀ sp : Nat → Bool, (∀ x ∈ p, sp x.block = true) → DataW.TrodAll enc P W' 0 sp true f.params.toList args.toList ds p := fun sp hsp => trodAll_stays hl hb hts hA hlt hsp
  have hvars : ∀ sp : Nat → Bool, DataW.TrodVars enc P W' sp s.vars ([] : List (DataW H)) [] := fun sp => by rw [hv]; exact rfl
  have hres : ∀ (b : Nat) (sp : Nat → Bool) (hd : Bool), DataW.TrodAll enc P W' b sp hd f.resultTypes.toList ((Value.bool true).resultList f.resultTypes.size) [.lit (.bool true)] [] := fun b sp hd => by
    rw [hr]; exact trodAll_mk1 (shut_bool hu _)
  have hold : ∀ x ∈ p, (fun b => decide (b < W.heap.size)) x.block = true := fun x hx => by simpa using hlt x hx
  have hfn' : s.fn H (ds ++ []) = { results := [.lit (.bool true)], args := ds } := by rw [List.append_nil]; exact hfn
  refine ⟨ds, [], p ++ [], [], p, [], hW0, ?_, ?_, ?_, World.keptBut_mono (fun x hx => ⟨hx, ?_⟩) (hb.frame (· ∈ p ++ [])), fun _ => ?_⟩
  · rw [hfn']; exact hres _ _ _
  · rw [hfn']; exact hargs _ hold
  · rw [hfn']; exact hvars _
  · rw [List.append_nil] at hx; exact Or.inr (.inl hx)
  · refine ⟨ok_one hr rfl (okWide_bool_mk hu _), _, _, ([] ++ p) ++ [], ⟨[] ++ p, [], trodAll_append (hargs _ (fun _ _ => rfl)) (hres _ _ _), hvars _, rfl, ?_, ?_⟩, ?_⟩
    · intro b off hx
      have hin : MemPlace.cell b off ∈ p := by simpa using hx
      rw [hb.frozen (p := ⟨b, off, none⟩) (hlt _ hin)]
      exact hfz b off (by simpa using hin)
    · intro ha
      simpa using hnd ha
    · intro x hx _
      simpa using hx
section
variable {H : Type} {enc : TypeId × Value → H} {w : World} {base : Nat} {spare : Nat → Bool} {held : Bool}
theorem cells_of_size {P : Program} {t : TypeId} {n : Nat} (h : (P.info? t).map (·.size) = some n) : P.cellsOf t = n := by
  unfold Program.cellsOf
  cases e : P.info? t with
  | none => rw [e] at h; cases h
  | some i => rw [e] at h; simpa using h
theorem cells_i64 : Try.prog.cellsOf 2 = 1 := cells_of_size (by kernel_rfl)
theorem ints_i64 : Ints enc Try.prog w base spare held 2 := ints_int Try.underlying2
theorem cells_st : Try.prog.cellsOf 27 = 24 := cells_of_size (by kernel_rfl)
theorem ints_st : Ints enc Try.prog w base spare held 27 := ints_array (n := 24) (m := 1) Try.underlying27 cells_st cells_i64 ints_i64
set_option maxRecDepth 100000 in
theorem cells_a3 : Try.prog.cellsOf 29 = 3 := cells_of_size (by kernel_rfl)
set_option maxRecDepth 100000 in
theorem ints_a3 : Ints enc Try.prog w base spare held 29 := ints_array (n := 3) (m := 1) Try.underlying29 cells_a3 cells_i64 ints_i64
set_option maxRecDepth 100000 in
theorem cells_imu : Try.prog.cellsOf 31 = 8 := cells_of_size (by kernel_rfl)
set_option maxRecDepth 100000 in
theorem ints_imu : Ints enc Try.prog w base spare held 31 := by
  refine ints_struct (n := 8) Try.underlying31 cells_imu (fun q hq => ?_) (fun j f hj => ?_)
  · by_cases h0 : q < 2
    · obtain rfl | rfl : q = 0 ∨ q = 1 := by omega
      · exact ⟨0, _, rfl, Nat.le_refl _, by show 0 < 0 + Try.prog.cellsOf 2; rw [cells_i64]; omega⟩
      · exact ⟨1, _, rfl, Nat.le_refl _, by show 1 < 1 + Try.prog.cellsOf 2; rw [cells_i64]; omega⟩
    · by_cases h1 : q < 5
      · exact ⟨2, _, rfl, by show 2 ≤ q; omega, by show q < 2 + Try.prog.cellsOf 29; rw [cells_a3]; omega⟩
      · exact ⟨3, _, rfl, by show 5 ≤ q; omega, by show q < 5 + Try.prog.cellsOf 29; rw [cells_a3]; omega⟩
  · match j, hj with
    | 0, hj => cases hj; exact ints_i64
    | 1, hj => cases hj; exact ints_i64
    | 2, hj => cases hj; exact ints_a3
    | 3, hj => cases hj; exact ints_a3
    | n + 4, hj => rw [Array.getElem?_eq_none (by show 4 ≤ n + 4; omega)] at hj; cases hj
theorem own_knob : ownKnob Try.prog.godebug = none := by kernel_rfl
theorem laid_out : laidOutB Try.prog = true := by kernel_rfl
end
end Go.Proofs.Ytnnjcdbliaecgaa
