/- Contracts of the program's functions and plain laws, part 18: they hold for all arguments. -/
import Derived.Test.YtgpnopiinogkmaaQ17
import Derived.Test.YtgpnopiinogkmaaQ12
import Derived.Test.YtgpnopiinogkmaaQ06
import Derived.Test.YtgpnopiinogkmaaQ03
import Derived.Test.YtgpnopiinogkmaaQ01
/- Contract of law 16's awake. -/
namespace Go.Proofs.Ytgpnopiinogkmaa
open Go.RowKit
set_option maxRecDepth 100000
open Go in
theorem run_build_st1 {o : Oper} {ev : Operand → Value} {w : World} (x : Operand) (ho : o.op = .build 30 #[(0, x)]) {a : Int} (hx : ev x = .int .i64 a) :
    (execOp ev o).run Try.prog w = .ok (.value (.agg (arrv 24 (fun i => if i = 0 then a else 0)))) w := by
  unfold execOp
  simp only [ho, List.map_toArray, List.map_cons, List.map_nil, hx]
  kernel_rfl
/-- The flag (never set), the estimate. -/
structure AsR (bc sb : Nat) (w wr : World) : Prop where
  below : Below w.heap.size w wr
  fl : Flg wr bc false
  s : Blk wr sb 30 24 onSt
  lt : w.heap.size ≤ bc ∧ bc < sb
theorem AsR.down {bc sb : Nat} {w wr w' : World} (s : AsR bc sb w wr) (k : Below wr.heap.size wr w') : AsR bc sb w w' := ⟨s.below.trans (k.mono s.below.size), s.fl.below k, s.s.below k, s.lt⟩
theorem AsR.upd' {bc sb : Nat} {w wr w' : World} (s : AsR bc sb w wr) (u : Upd ⟨bc, 0, none⟩ false wr w') : AsR bc sb w w' := ⟨below_of_upd s.below u s.lt.1, s.fl.hit u, s.s.upd u (by have := s.lt; simp only; omega), s.lt⟩
structure AtR (bc sb pb : Nat) (w wr : World) : Prop where
  a : AsR bc sb w wr
  p : Blk wr pb 43 20 p0
  lt : sb < pb
theorem AtR.down {bc sb pb : Nat} {w wr w' : World} (s : AtR bc sb pb w wr) (k : Below wr.heap.size wr w') : AtR bc sb pb w w' := ⟨s.a.down k, s.p.below k, s.lt⟩
theorem AtR.upd' {bc sb pb : Nat} {w wr w' : World} (s : AtR bc sb pb w wr) (u : Upd ⟨bc, 0, none⟩ false wr w') : AtR bc sb pb w w' := ⟨s.a.upd' u, s.p.upd u (by have := s.lt; have := s.a.lt; simp only; omega), s.lt⟩
theorem as_start (w : World) : AsR w.heap.size (w.heap.size + 1) w (((w.alloc (.cells #[.bool false] 25)).alloc (.cells #[.int .i64 0, .int .i64 0, .int .i64 0, .int .i64 0, .int .i64 0, .int .i64 0, .int .i64 0, .int .i64 0, .int .i64 0, .int .i64 0, .int .i64 0, .int .i64 0, .int .i64 0, .int .i64 0, .int .i64 0, .int .i64 0, .int .i64 0, .int .i64 0, .int .i64 0, .int .i64 0, .int .i64 0, .int .i64 0, .int .i64 0, .int .i64 0] 30)).setRow (w.heap.size + 1) (arrv 24 onSt)) := by
  have b1 : Blk ((w.alloc (.cells #[.bool false] 25)).alloc (.cells #[.int .i64 0, .int .i64 0, .int .i64 0, .int .i64 0, .int .i64 0, .int .i64 0, .int .i64 0, .int .i64 0, .int .i64 0, .int .i64 0, .int .i64 0, .int .i64 0, .int .i64 0, .int .i64 0, .int .i64 0, .int .i64 0, .int .i64 0, .int .i64 0, .int .i64 0, .int .i64 0, .int .i64 0, .int .i64 0, .int .i64 0, .int .i64 0] 30)) (w.heap.size + 1) 30 24 (fun _ => 0) := by rw [zvec24]; exact Blk.new1 w _ _ 24 _
  exact ⟨below_row (by (repeat (first | with_reducible exact Below.refl _ _ | with_reducible apply Below.drew | (with_reducible refine below_drewN ?_ _) | (with_reducible refine Below.alloc ?_ (by (try simp) <;> omega) _) | (with_reducible refine Below.setCell ?_ (by (try simp) <;> omega) _)))) (by omega) _, ((Flg.new w false).alloc _).row _ (by omega), b1.setRow _, Nat.le_refl _, by omega⟩
theorem as_new {bc sb : Nat} {w wr : World} (s : AsR bc sb w wr) (d : Nat) (e : wr.heap.size = d) : Blk (wr.alloc (.cells #[.int .i64 0, .int .i64 0, .int .i64 0, .int .i64 0, .int .i64 0, .int .i64 0, .int .i64 0, .int .i64 0, .int .i64 0, .int .i64 0, .int .i64 0, .int .i64 0, .int .i64 0, .int .i64 0, .int .i64 0, .int .i64 0, .int .i64 0, .int .i64 0, .int .i64 0, .int .i64 0] 43)) d 43 20 (fun _ => 0) ∧ sb < d := by
  subst e; rw [zp20]; exact ⟨Blk.new _ _ _ _, s.s.lt⟩
theorem as_put {bc sb d : Nat} {f : Nat → Int} {w wr : World} (s : AsR bc sb w wr) (hb : Blk wr d 43 20 f) (hd : sb < d) : AtR bc sb d w (wr.setRow d (arrv 20 p0)) :=
  ⟨⟨below_row s.below (by have := s.lt; omega) _, s.fl.row _ (by have := s.lt; omega), s.s.setRow_other _ (by omega), s.lt⟩, hb.setRow p0, hd⟩
theorem eqB_self (n : Nat) (f : Nat → Int) : eqB n f f = true := eqB_iff.2 fun _ _ => rfl
/-- The contracts of rest, with their numbers. -/
theorem rest_step (c : Addr) (x : World) (k : x.cell? c = some (.bool false)) (f : x.frozen? c = false) :
    Calls Try.prog 7 #[.pointer (some c), .agg (arrv 24 onSt), .agg (arrv 8 (stlF 8000))] x fun e w' => e = .returned (.agg (arrv 24 onSt)) ∧ Upd c false x w' := by
  have h := step_any2 c false onSt (stlF 8000) x k f
  rw [st_step.2, arrv_congr st_step.1] at h
  exact h
theorem rest_split (c : Addr) (x : World) (k : x.cell? c = some (.bool false)) (f : x.frozen? c = false) :
    Calls Try.prog 10 #[.pointer (some c), .agg (arrv 24 onSt), .agg (arrv 8 (stlF 8000))] x fun e w' => e = .returned (.agg (arrv 20 p0)) ∧ Upd c false x w' := by
  have h := split_any c false onSt (stlF 8000) x k f
  rw [st_keep.2, st_spl.2, arrv_congr st_spl.1] at h
  exact h
theorem rest_of (c : Addr) (x : World) (k : x.cell? c = some (.bool false)) (f : x.frozen? c = false) :
    Calls Try.prog 13 #[.pointer (some c), .agg (arrv 4 oneQ)] x fun e w' => e = .returned (.agg (arrv 9 id9)) ∧ Upd c false x w' := by
  have h := rof_any c false oneQ x k f
  rw [st_ro.2, arrv_congr st_ro.1] at h
  exact h
theorem rest_sec1 (c : Addr) (x : World) (k : x.cell? c = some (.bool false)) (f : x.frozen? c = false) :
    Calls Try.prog 11 #[.pointer (some c), .int .i64 1000000] x fun e w' => e = .returned (.int .i64 1073741824) ∧ Upd c false x w' := by
  have h := sec_any c false 1000000 x k f
  rw [st_sec.1, st_sec.2.1] at h
  exact h
theorem rest_sec2 (c : Addr) (x : World) (k : x.cell? c = some (.bool false)) (f : x.frozen? c = false) :
    Calls Try.prog 11 #[.pointer (some c), .int .i64 8000] x fun e w' => e = .returned (.int .i64 8589935) ∧ Upd c false x w' := by
  have h := sec_any c false 8000 x k f
  rw [st_sec.2.2.1, st_sec.2.2.2] at h
  exact h
set_option maxHeartbeats 16000000 in
theorem awake16_any (w : World) : Calls Try.prog 4 #[] w fun e w' => e = .returned (.bool true) ∧ Below w.heap.size w w' := by
  have S0 := Lib.hid (as_start w)
  go_enter Try.func4, Try.ntmps4
  go_upto_region 2 with fail
  refine wp_region_lit ?_
  refine wpList_val (v := ?_) rfl ?_ ?_
  rotate_left
  · (refine Eq.trans (run_build_st1 (.const (.int .i64 1073741824)) (by rfl) (by rfl)) ?_; with_reducible rfl)
  (try simp only [Act.put, nA, nB, nC])
  refine wpList_act (v := ?_) (w' := ?_) rfl ?_ ?_
  rotate_left 2
  · (go_simp; (try (first | with_reducible rfl | (constructor <;> with_reducible rfl))))
  (try simp only [Act.put, nA, nB, nC])
  refine wpList_done (w' := ?_) rfl ?_ ?_
  rotate_left
  · (refine Eq.trans (run_store_row 30 (.tmp 2) (.tmp 6) (by rfl) (w.heap.size + 1) (by first | (simp; rfl) | rfl) (by rfl) (show Blk ((w.alloc (.cells #[.bool false] 25)).alloc (.cells #[.int .i64 0, .int .i64 0, .int .i64 0, .int .i64 0, .int .i64 0, .int .i64 0, .int .i64 0, .int .i64 0, .int .i64 0, .int .i64 0, .int .i64 0, .int .i64 0, .int .i64 0, .int .i64 0, .int .i64 0, .int .i64 0, .int .i64 0, .int .i64 0, .int .i64 0, .int .i64 0, .int .i64 0, .int .i64 0, .int .i64 0, .int .i64 0] 30)) (w.heap.size + 1) 30 24 (fun _ => 0) by rw [zvec24]; exact Blk.new1 w _ _ 24 _) (ist.trans rfl)) ?_; with_reducible rfl)
  (try simp only [Act.put, nA, nB, nC])
  refine wpList_nil ?_
  rw [show (fun i => if i = 0 then (1073741824 : Int) else 0) = onSt from rfl]
  generalize ((w.alloc (.cells #[.bool false] 25)).alloc (.cells #[.int .i64 0, .int .i64 0, .int .i64 0, .int .i64 0, .int .i64 0, .int .i64 0, .int .i64 0, .int .i64 0, .int .i64 0, .int .i64 0, .int .i64 0, .int .i64 0, .int .i64 0, .int .i64 0, .int .i64 0, .int .i64 0, .int .i64 0, .int .i64 0, .int .i64 0, .int .i64 0, .int .i64 0, .int .i64 0, .int .i64 0, .int .i64 0] 30)).setRow (w.heap.size + 1) (arrv 24 onSt) = W0 at *
  go_upto_region 3 with fail
  have HS := Lib.hid (S0.out.down (Below.drew (Below.refl _ _)))
  clear S0
  have hbs : w.heap.size < w.heap.size + 1 := by omega
  (try simp only [Act.put])
  go_cut [3] from 7 to 10 (fun s3 wx => ∃ b, s3 = .pointer (some ⟨b, 0, none⟩) ∧ Hid (AtR w.heap.size (w.heap.size + 1) b w wx))
  case first =>
    refine wp_region_M (fun w' => Blk w' (w.heap.size + 1) 30 24 onSt) 5 (by kernel_rfl) ?_ (fun hHeld => ?_)
    · exact HS.out.s
    refine wpAnyM_take 0 (v := ?_) rfl (by kernel_rfl) (fun _ _ _ h => h) (Or.inl ⟨by rfl, ?_⟩) (by assumption) ?_
    rotate_left
    · (intro wx hSw; (try dsimp only at hSw); go_simp; (try with_reducible rfl))
    (try simp only [Act.put, nA, nB, nC])
    refine wpAnyM_take 1 (v := ?_) rfl (by kernel_rfl) (fun _ _ _ h => h) (Or.inl ⟨by rfl, ?_⟩) (by assumption) ?_
    rotate_left
    · (intro wx hSw; refine Eq.trans (run_load_row 30 (.tmp 2) (by rfl) (w.heap.size + 1) (by rfl) _ _ _ _ (hSw) Try.underlying30 rfl (ist.trans (by rw [arrv_size]))) ?_; with_reducible rfl)
    (try simp only [Act.put, nA, nB, nC])
    refine wpAnyM_twoS 2 4 rfl rfl (by kernel_rfl) (fun K hK => ?_) (fun K hK => ?_)
    · go_simp
      (refine (still_any 8000 _).mono ?_); rintro e w1 ⟨rfl, hb⟩; have HS2 := Lib.hid (HS.out.down hb); clear HS; have HS := HS2; clear HS2; (try (have HA2 := Lib.hid (And.intro (HA.out.1.below hb) HA.out.2); clear HA; have HA := HA2; clear HA2)); clear hb
      (try dsimp only)
      (try simp only [Act.put, nA, nB, nC])
      clear hHeld
      refine hK.out _ _ ?_ (fun hHeld => ?_)
      · exact HS.out.s
      clear hK K
      (try simp only [Act.put, nA, nB, nC])
      refine wpAnyM_twoS 3 4 rfl rfl (by kernel_rfl) (fun K hK => ?_) (fun K hK => ?_)
      · go_simp
        (refine (rest_split ⟨w.heap.size, 0, none⟩ _ HS.out.fl.cell HS.out.fl.free).mono ?_); rintro e w2 ⟨rfl, hu⟩; have hlt := HS.out.lt; have HS2 := Lib.hid (HS.out.upd' hu); clear HS; have HS := HS2; clear HS2; (try (have HA2 := Lib.hid (And.intro (HA.out.1.upd hu (by have := HA.out.2; simp only; omega)) HA.out.2); clear HA; have HA := HA2; clear HA2)); clear hu hlt
        (try dsimp only)
        (try simp only [Act.put, nA, nB, nC])
        clear hHeld
        refine hK.out _ _ ?_ (fun hHeld => ?_)
        · exact HS.out.s
        clear hK K
        (try simp only [Act.put, nA, nB, nC])
        refine wpAnyM_oneS 4 rfl (by kernel_rfl) (fun K hK => ?_)
        go_simp; have HA := Lib.hid (as_new HS.out _ (by first | (simp; rfl) | rfl)); have HS2 := Lib.hid (HS.out.down (Below.alloc (Below.refl _ _) (Nat.le_refl _) (.cells #[.int .i64 0, .int .i64 0, .int .i64 0, .int .i64 0, .int .i64 0, .int .i64 0, .int .i64 0, .int .i64 0, .int .i64 0, .int .i64 0, .int .i64 0, .int .i64 0, .int .i64 0, .int .i64 0, .int .i64 0, .int .i64 0, .int .i64 0, .int .i64 0, .int .i64 0, .int .i64 0] 43))); clear HS; have HS := HS2; clear HS2
        clear hHeld
        refine hK.out _ _ ?_ (fun hHeld => ?_)
        · exact HS.out.s
        clear hK K
        (try simp only [Act.put, nA, nB, nC])
        refine wpAnyM_one 5 rfl (by kernel_rfl) (fun K hK => ?_)
        refine if_pos_of rfl ?_; refine wp_of_run (run_store_row 43 (.tmp 3) (.tmp 10) rfl _ rfl rfl HA.out.1 iprt) ?_
        refine hK.out _ _ (.inl (by kernel_rfl)) (fun _ => ?_)
        clear hK K
        (try simp only [Act.put, nA, nB, nC])
        refine wpAnyM_done (by kernel_rfl) ?_ _
        (go_wp2_with fail; go_meet; exact ⟨_, rfl, Lib.hid (as_put HS.out HA.out.1 HA.out.2)⟩)
      · go_simp; have HA := Lib.hid (as_new HS.out _ (by first | (simp; rfl) | rfl)); have HS2 := Lib.hid (HS.out.down (Below.alloc (Below.refl _ _) (Nat.le_refl _) (.cells #[.int .i64 0, .int .i64 0, .int .i64 0, .int .i64 0, .int .i64 0, .int .i64 0, .int .i64 0, .int .i64 0, .int .i64 0, .int .i64 0, .int .i64 0, .int .i64 0, .int .i64 0, .int .i64 0, .int .i64 0, .int .i64 0, .int .i64 0, .int .i64 0, .int .i64 0, .int .i64 0] 43))); clear HS; have HS := HS2; clear HS2
        clear hHeld
        refine hK.out _ _ ?_ (fun hHeld => ?_)
        · exact HS.out.s
        clear hK K
        (try simp only [Act.put, nA, nB, nC])
        refine wpAnyM_oneS 3 rfl (by kernel_rfl) (fun K hK => ?_)
        go_simp
        (refine (rest_split ⟨w.heap.size, 0, none⟩ _ HS.out.fl.cell HS.out.fl.free).mono ?_); rintro e w2 ⟨rfl, hu⟩; have hlt := HS.out.lt; have HS2 := Lib.hid (HS.out.upd' hu); clear HS; have HS := HS2; clear HS2; (try (have HA2 := Lib.hid (And.intro (HA.out.1.upd hu (by have := HA.out.2; simp only; omega)) HA.out.2); clear HA; have HA := HA2; clear HA2)); clear hu hlt
        (try dsimp only)
        (try simp only [Act.put, nA, nB, nC])
        clear hHeld
        refine hK.out _ _ ?_ (fun hHeld => ?_)
        · exact HS.out.s
        clear hK K
        (try simp only [Act.put, nA, nB, nC])
        refine wpAnyM_one 5 rfl (by kernel_rfl) (fun K hK => ?_)
        refine if_pos_of rfl ?_; refine wp_of_run (run_store_row 43 (.tmp 3) (.tmp 10) rfl _ rfl rfl HA.out.1 iprt) ?_
        refine hK.out _ _ (.inl (by kernel_rfl)) (fun _ => ?_)
        clear hK K
        (try simp only [Act.put, nA, nB, nC])
        refine wpAnyM_done (by kernel_rfl) ?_ _
        (go_wp2_with fail; go_meet; exact ⟨_, rfl, Lib.hid (as_put HS.out HA.out.1 HA.out.2)⟩)
    · go_simp; have HA := Lib.hid (as_new HS.out _ (by first | (simp; rfl) | rfl)); have HS2 := Lib.hid (HS.out.down (Below.alloc (Below.refl _ _) (Nat.le_refl _) (.cells #[.int .i64 0, .int .i64 0, .int .i64 0, .int .i64 0, .int .i64 0, .int .i64 0, .int .i64 0, .int .i64 0, .int .i64 0, .int .i64 0, .int .i64 0, .int .i64 0, .int .i64 0, .int .i64 0, .int .i64 0, .int .i64 0, .int .i64 0, .int .i64 0, .int .i64 0, .int .i64 0] 43))); clear HS; have HS := HS2; clear HS2
      clear hHeld
      refine hK.out _ _ ?_ (fun hHeld => ?_)
      · exact HS.out.s
      clear hK K
      (try simp only [Act.put, nA, nB, nC])
      refine wpAnyM_oneS 2 rfl (by kernel_rfl) (fun K hK => ?_)
      go_simp
      (refine (still_any 8000 _).mono ?_); rintro e w1 ⟨rfl, hb⟩; have HS2 := Lib.hid (HS.out.down hb); clear HS; have HS := HS2; clear HS2; (try (have HA2 := Lib.hid (And.intro (HA.out.1.below hb) HA.out.2); clear HA; have HA := HA2; clear HA2)); clear hb
      (try dsimp only)
      (try simp only [Act.put, nA, nB, nC])
      clear hHeld
      refine hK.out _ _ ?_ (fun hHeld => ?_)
      · exact HS.out.s
      clear hK K
      (try simp only [Act.put, nA, nB, nC])
      refine wpAnyM_oneS 3 rfl (by kernel_rfl) (fun K hK => ?_)
      go_simp
      (refine (rest_split ⟨w.heap.size, 0, none⟩ _ HS.out.fl.cell HS.out.fl.free).mono ?_); rintro e w2 ⟨rfl, hu⟩; have hlt := HS.out.lt; have HS2 := Lib.hid (HS.out.upd' hu); clear HS; have HS := HS2; clear HS2; (try (have HA2 := Lib.hid (And.intro (HA.out.1.upd hu (by have := HA.out.2; simp only; omega)) HA.out.2); clear HA; have HA := HA2; clear HA2)); clear hu hlt
      (try dsimp only)
      (try simp only [Act.put, nA, nB, nC])
      clear hHeld
      refine hK.out _ _ ?_ (fun hHeld => ?_)
      · exact HS.out.s
      clear hK K
      (try simp only [Act.put, nA, nB, nC])
      refine wpAnyM_one 5 rfl (by kernel_rfl) (fun K hK => ?_)
      refine if_pos_of rfl ?_; refine wp_of_run (run_store_row 43 (.tmp 3) (.tmp 10) rfl _ rfl rfl HA.out.1 iprt) ?_
      refine hK.out _ _ (.inl (by kernel_rfl)) (fun _ => ?_)
      clear hK K
      (try simp only [Act.put, nA, nB, nC])
      refine wpAnyM_done (by kernel_rfl) ?_ _
      (go_wp2_with fail; go_meet; exact ⟨_, rfl, Lib.hid (as_put HS.out HA.out.1 HA.out.2)⟩)
  case rest =>
  obtain ⟨pb, rfl, HB⟩ := hcut
  clear HS hbs
  have HE := Lib.hid (And.intro (eqB_self 24 onSt) (And.intro (eqB_self 4 oneQ) (eqB_self 9 id9)))
  go_upto_region 4 with fail
  have HS := Lib.hid (HB.out.down (Below.drew (Below.refl _ _)))
  clear HB
  refine wp_region_M (fun w' => Blk w' (w.heap.size + 1) 30 24 onSt ∧ Blk w' pb 43 20 p0 ∧ w'.cell? ⟨w.heap.size, 0, none⟩ = some (.bool false)) 45 (by kernel_rfl) ?_ (fun hHeld => ?_)
  · exact ⟨HS.out.a.s, HS.out.p, HS.out.a.fl.cell⟩
  refine wpAnyM_take 0 (v := ?_) rfl (by kernel_rfl) (fun _ _ _ h => h) (Or.inl ⟨by rfl, ?_⟩) (by assumption) ?_
  rotate_left
  · (intro wx hSw; (try dsimp only at hSw); go_simp; (try with_reducible rfl))
  (try simp only [Act.put, nA, nB, nC])
  refine wpAnyM_take 1 (v := ?_) rfl (by kernel_rfl) (fun _ _ _ h => h) (Or.inl ⟨by rfl, ?_⟩) (by assumption) ?_
  rotate_left
  · (intro wx hSw; refine Eq.trans (run_load_row 30 (.tmp 2) (by rfl) (w.heap.size + 1) (by rfl) _ _ _ _ (hSw.1) Try.underlying30 rfl (ist.trans (by rw [arrv_size]))) ?_; with_reducible rfl)
  (try simp only [Act.put, nA, nB, nC])
  refine wpAnyM_take 4 (v := ?_) rfl (by kernel_rfl) (fun _ _ _ h => h) (Or.inl ⟨by rfl, ?_⟩) (by assumption) ?_
  rotate_left
  · (intro wx hSw; refine Eq.trans (run_load_row 30 (.tmp 2) (by rfl) (w.heap.size + 1) (by rfl) _ _ _ _ (hSw.1) Try.underlying30 rfl (ist.trans (by rw [arrv_size]))) ?_; with_reducible rfl)
  (try simp only [Act.put, nA, nB, nC])
  refine wpAnyM_oneS 2 rfl (by kernel_rfl) (fun K hK => ?_)
  go_simp
  (refine (still_any 8000 _).mono ?_); rintro e w1 ⟨rfl, hb⟩; have HS2 := Lib.hid (HS.out.down hb); clear HS; have HS := HS2; clear HS2; clear hb
  (try dsimp only)
  (try simp only [Act.put, nA, nB, nC])
  clear hHeld
  refine hK.out _ _ ?_ (fun hHeld => ?_)
  · exact ⟨HS.out.a.s, HS.out.p, HS.out.a.fl.cell⟩
  clear hK K
  (try simp only [Act.put, nA, nB, nC])
  refine wpAnyM_oneS 3 rfl (by kernel_rfl) (fun K hK => ?_)
  go_simp
  (refine (rest_step ⟨w.heap.size, 0, none⟩ _ HS.out.a.fl.cell HS.out.a.fl.free).mono ?_); rintro e w2 ⟨rfl, hu⟩; have HS2 := Lib.hid (HS.out.upd' hu); clear HS; have HS := HS2; clear HS2; clear hu
  (try dsimp only)
  (try simp only [Act.put, nA, nB, nC])
  clear hHeld
  refine hK.out _ _ ?_ (fun hHeld => ?_)
  · exact ⟨HS.out.a.s, HS.out.p, HS.out.a.fl.cell⟩
  clear hK K
  (try simp only [Act.put, nA, nB, nC])
  refine wpAnyM_take 5 (v := ?_) rfl (by kernel_rfl) (fun _ _ _ h => h) (Or.inl ⟨by rfl, ?_⟩) (by assumption) ?_
  rotate_left
  · (intro wx hSw; refine Eq.trans (run_op_eqlVec Try.underlying30 (by kernel_rfl) (.tmp 14) (.tmp 15) (by rfl) (by rfl) (by rfl) HE.out.1) ?_; with_reducible rfl)
  (try simp only [Act.put, nA, nB, nC])
  refine wpAnyM_take 6 (v := ?_) rfl (by kernel_rfl) (fun _ _ _ h => h) (Or.inl ⟨by rfl, ?_⟩) (by assumption) ?_
  rotate_left
  · (intro wx hSw; (try dsimp only at hSw); go_simp; (try with_reducible rfl))
  (try simp only [Act.put, nA, nB, nC])
  first | (refine wpAnyM_take 7 (v := ?_) rfl (by kernel_rfl) (fun _ _ _ h => h) (Or.inl ⟨by rfl, ?_⟩) (by assumption) ?_; rotate_left; focus ((intro wx hSw; (try dsimp only at hSw); go_simp; (try with_reducible rfl)))) | (refine wpAnyM_take 7 rfl (by kernel_rfl) (fun _ _ _ h => h) (Or.inr ⟨by rfl, rfl⟩) (by assumption) ?_)
  (try simp only [Act.put, nA, nB, nC])
  refine wpAnyM_oneS 8 rfl (by kernel_rfl) (fun K hK => ?_)
  go_simp
  (refine (rest_sec1 ⟨w.heap.size, 0, none⟩ _ HS.out.a.fl.cell HS.out.a.fl.free).mono ?_); rintro e w3 ⟨rfl, hu⟩; have HS2 := Lib.hid (HS.out.upd' hu); clear HS; have HS := HS2; clear HS2; clear hu
  (try dsimp only)
  (try simp only [Act.put, nA, nB, nC])
  clear hHeld
  refine hK.out _ _ ?_ (fun hHeld => ?_)
  · exact ⟨HS.out.a.s, HS.out.p, HS.out.a.fl.cell⟩
  clear hK K
  (try simp only [Act.put, nA, nB, nC])
  first | (refine wpAnyM_take 9 (v := ?_) rfl (by kernel_rfl) (fun _ _ _ h => h) (Or.inl ⟨by rfl, ?_⟩) (by assumption) ?_; rotate_left; focus ((intro wx hSw; (try dsimp only at hSw); go_simp; (try with_reducible rfl)))) | (refine wpAnyM_take 9 rfl (by kernel_rfl) (fun _ _ _ h => h) (Or.inr ⟨by rfl, rfl⟩) (by assumption) ?_)
  (try simp only [Act.put, nA, nB, nC])
  refine wpAnyM_take 10 (v := ?_) rfl (by kernel_rfl) (fun _ _ _ h => h) (Or.inl ⟨by rfl, ?_⟩) (by assumption) ?_
  rotate_left
  · (intro wx hSw; (try dsimp only at hSw); go_simp; (try with_reducible rfl))
  (try simp only [Act.put, nA, nB, nC])
  refine wpAnyM_take 11 (v := ?_) rfl (by kernel_rfl) (fun _ _ _ h => h) (Or.inl ⟨by rfl, ?_⟩) (by assumption) ?_
  rotate_left
  · (intro wx hSw; (try dsimp only at hSw); go_simp; (try with_reducible rfl))
  (try simp only [Act.put, nA, nB, nC])
  first | (refine wpAnyM_take 12 (v := ?_) rfl (by kernel_rfl) (fun _ _ _ h => h) (Or.inl ⟨by rfl, ?_⟩) (by assumption) ?_; rotate_left; focus ((intro wx hSw; (try dsimp only at hSw); go_simp; (try with_reducible rfl)))) | (refine wpAnyM_take 12 rfl (by kernel_rfl) (fun _ _ _ h => h) (Or.inr ⟨by rfl, rfl⟩) (by assumption) ?_)
  (try simp only [Act.put, nA, nB, nC])
  first | (refine wpAnyM_take 13 (v := ?_) rfl (by kernel_rfl) (fun _ _ _ h => h) (Or.inl ⟨by rfl, ?_⟩) (by assumption) ?_; rotate_left; focus ((intro wx hSw; have h0 := hSw.2.1.cell (i := 0) (by decide); rw [show p0 0 = 8589935 from rfl] at h0; go_simp; (try with_reducible rfl)))) | (refine wpAnyM_take 13 rfl (by kernel_rfl) (fun _ _ _ h => h) (Or.inr ⟨by rfl, rfl⟩) (by assumption) ?_)
  (try simp only [Act.put, nA, nB, nC])
  first | (refine wpAnyM_take 14 (v := ?_) rfl (by kernel_rfl) (fun _ _ _ h => h) (Or.inl ⟨by rfl, ?_⟩) (by assumption) ?_; rotate_left; focus ((intro wx hSw; (try dsimp only at hSw); go_simp; (try with_reducible rfl)))) | (refine wpAnyM_take 14 rfl (by kernel_rfl) (fun _ _ _ h => h) (Or.inr ⟨by rfl, rfl⟩) (by assumption) ?_)
  (try simp only [Act.put, nA, nB, nC])
  refine wpAnyM_oneS 15 rfl (by kernel_rfl) (fun K hK => ?_)
  go_simp
  (refine (rest_sec2 ⟨w.heap.size, 0, none⟩ _ HS.out.a.fl.cell HS.out.a.fl.free).mono ?_); rintro e w4 ⟨rfl, hu⟩; have HS2 := Lib.hid (HS.out.upd' hu); clear HS; have HS := HS2; clear HS2; clear hu
  (try dsimp only)
  (try simp only [Act.put, nA, nB, nC])
  clear hHeld
  refine hK.out _ _ ?_ (fun hHeld => ?_)
  · exact ⟨HS.out.a.s, HS.out.p, HS.out.a.fl.cell⟩
  clear hK K
  (try simp only [Act.put, nA, nB, nC])
  first | (refine wpAnyM_take 16 (v := ?_) rfl (by kernel_rfl) (fun _ _ _ h => h) (Or.inl ⟨by rfl, ?_⟩) (by assumption) ?_; rotate_left; focus ((intro wx hSw; (try dsimp only at hSw); go_simp; (try with_reducible rfl)))) | (refine wpAnyM_take 16 rfl (by kernel_rfl) (fun _ _ _ h => h) (Or.inr ⟨by rfl, rfl⟩) (by assumption) ?_)
  (try simp only [Act.put, nA, nB, nC])
  refine wpAnyM_take 17 (v := ?_) rfl (by kernel_rfl) (fun _ _ _ h => h) (Or.inl ⟨by rfl, ?_⟩) (by assumption) ?_
  rotate_left
  · (intro wx hSw; (try dsimp only at hSw); go_simp; (try with_reducible rfl))
  (try simp only [Act.put, nA, nB, nC])
  refine wpAnyM_take 18 (v := ?_) rfl (by kernel_rfl) (fun _ _ _ h => h) (Or.inl ⟨by rfl, ?_⟩) (by assumption) ?_
  rotate_left
  · (intro wx hSw; (try dsimp only at hSw); go_simp; (try with_reducible rfl))
  (try simp only [Act.put, nA, nB, nC])
  first | (refine wpAnyM_take 19 (v := ?_) rfl (by kernel_rfl) (fun _ _ _ h => h) (Or.inl ⟨by rfl, ?_⟩) (by assumption) ?_; rotate_left; focus ((intro wx hSw; (try dsimp only at hSw); go_simp; (try with_reducible rfl)))) | (refine wpAnyM_take 19 rfl (by kernel_rfl) (fun _ _ _ h => h) (Or.inr ⟨by rfl, rfl⟩) (by assumption) ?_)
  (try simp only [Act.put, nA, nB, nC])
  first | (refine wpAnyM_take 20 (v := ?_) rfl (by kernel_rfl) (fun _ _ _ h => h) (Or.inl ⟨by rfl, ?_⟩) (by assumption) ?_; rotate_left; focus ((intro wx hSw; refine Eq.trans (run_load_sub 27 (.tmp 30) (by rfl) pb 7 4 (by rfl) hSw.2.1 (by decide) _ Try.underlying27 rfl iqt) ?_; rw [show arrv 4 (fun i => p0 (7 + i)) = arrv 4 oneQ from arrv_congr (by decide)]))) | (refine wpAnyM_take 20 rfl (by kernel_rfl) (fun _ _ _ h => h) (Or.inr ⟨by rfl, rfl⟩) (by assumption) ?_)
  (try simp only [Act.put, nA, nB, nC])
  refine wpAnyM_oneS 21 rfl (by kernel_rfl) (fun K hK => ?_)
  go_simp
  (refine (qone_any _).mono ?_); rintro e w5 ⟨rfl, hb⟩; have HS2 := Lib.hid (HS.out.down hb); clear HS; have HS := HS2; clear HS2; clear hb
  (try dsimp only)
  (try simp only [Act.put, nA, nB, nC])
  clear hHeld
  refine hK.out _ _ ?_ (fun hHeld => ?_)
  · exact ⟨HS.out.a.s, HS.out.p, HS.out.a.fl.cell⟩
  clear hK K
  (try simp only [Act.put, nA, nB, nC])
  first | (refine wpAnyM_take 22 (v := ?_) rfl (by kernel_rfl) (fun _ _ _ h => h) (Or.inl ⟨by rfl, ?_⟩) (by assumption) ?_; rotate_left; focus ((intro wx hSw; refine Eq.trans (run_op_eqlVec Try.underlying27 (by kernel_rfl) (.tmp 31) (.tmp 32) (by rfl) (by rfl) (by rfl) HE.out.2.1) ?_; with_reducible rfl))) | (refine wpAnyM_take 22 rfl (by kernel_rfl) (fun _ _ _ h => h) (Or.inr ⟨by rfl, rfl⟩) (by assumption) ?_)
  (try simp only [Act.put, nA, nB, nC])
  refine wpAnyM_take 23 (v := ?_) rfl (by kernel_rfl) (fun _ _ _ h => h) (Or.inl ⟨by rfl, ?_⟩) (by assumption) ?_
  rotate_left
  · (intro wx hSw; (try dsimp only at hSw); go_simp; (try with_reducible rfl))
  (try simp only [Act.put, nA, nB, nC])
  refine wpAnyM_take 24 (v := ?_) rfl (by kernel_rfl) (fun _ _ _ h => h) (Or.inl ⟨by rfl, ?_⟩) (by assumption) ?_
  rotate_left
  · (intro wx hSw; (try dsimp only at hSw); go_simp; (try with_reducible rfl))
  (try simp only [Act.put, nA, nB, nC])
  first | (refine wpAnyM_take 25 (v := ?_) rfl (by kernel_rfl) (fun _ _ _ h => h) (Or.inl ⟨by rfl, ?_⟩) (by assumption) ?_; rotate_left; focus ((intro wx hSw; (try dsimp only at hSw); go_simp; (try with_reducible rfl)))) | (refine wpAnyM_take 25 rfl (by kernel_rfl) (fun _ _ _ h => h) (Or.inr ⟨by rfl, rfl⟩) (by assumption) ?_)
  (try simp only [Act.put, nA, nB, nC])
  first | (refine wpAnyM_take 26 (v := ?_) rfl (by kernel_rfl) (fun _ _ _ h => h) (Or.inl ⟨by rfl, ?_⟩) (by assumption) ?_; rotate_left; focus ((intro wx hSw; refine Eq.trans (run_load_sub 41 (.tmp 36) (by rfl) pb 11 9 (by rfl) hSw.2.1 (by decide) _ Try.underlying41 rfl im9) ?_; rw [show arrv 9 (fun i => p0 (11 + i)) = arrv 9 id9 from arrv_congr (by decide)]))) | (refine wpAnyM_take 26 rfl (by kernel_rfl) (fun _ _ _ h => h) (Or.inr ⟨by rfl, rfl⟩) (by assumption) ?_)
  (try simp only [Act.put, nA, nB, nC])
  first | (refine wpAnyM_take 27 (v := ?_) rfl (by kernel_rfl) (fun _ _ _ h => h) (Or.inl ⟨by rfl, ?_⟩) (by assumption) ?_; rotate_left; focus ((intro wx hSw; (try dsimp only at hSw); go_simp; (try with_reducible rfl)))) | (refine wpAnyM_take 27 rfl (by kernel_rfl) (fun _ _ _ h => h) (Or.inr ⟨by rfl, rfl⟩) (by assumption) ?_)
  (try simp only [Act.put, nA, nB, nC])
  refine wpAnyM_oneS 28 rfl (by kernel_rfl) (fun K hK => ?_)
  go_simp
  (refine (qone_any _).mono ?_); rintro e w6 ⟨rfl, hb⟩; have HS2 := Lib.hid (HS.out.down hb); clear HS; have HS := HS2; clear HS2; clear hb
  (try dsimp only)
  (try simp only [Act.put, nA, nB, nC])
  clear hHeld
  refine hK.out _ _ ?_ (fun hHeld => ?_)
  · exact ⟨HS.out.a.s, HS.out.p, HS.out.a.fl.cell⟩
  clear hK K
  (try simp only [Act.put, nA, nB, nC])
  refine wpAnyM_oneS 29 rfl (by kernel_rfl) (fun K hK => ?_)
  go_simp
  (refine (rest_of ⟨w.heap.size, 0, none⟩ _ HS.out.a.fl.cell HS.out.a.fl.free).mono ?_); rintro e w7 ⟨rfl, hu⟩; have HS2 := Lib.hid (HS.out.upd' hu); clear HS; have HS := HS2; clear HS2; clear hu
  (try dsimp only)
  (try simp only [Act.put, nA, nB, nC])
  clear hHeld
  refine hK.out _ _ ?_ (fun hHeld => ?_)
  · exact ⟨HS.out.a.s, HS.out.p, HS.out.a.fl.cell⟩
  clear hK K
  (try simp only [Act.put, nA, nB, nC])
  first | (refine wpAnyM_take 30 (v := ?_) rfl (by kernel_rfl) (fun _ _ _ h => h) (Or.inl ⟨by rfl, ?_⟩) (by assumption) ?_; rotate_left; focus ((intro wx hSw; refine Eq.trans (run_op_eqlVec Try.underlying41 (by kernel_rfl) (.tmp 37) (.tmp 40) (by rfl) (by rfl) (by rfl) HE.out.2.2) ?_; with_reducible rfl))) | (refine wpAnyM_take 30 rfl (by kernel_rfl) (fun _ _ _ h => h) (Or.inr ⟨by rfl, rfl⟩) (by assumption) ?_)
  (try simp only [Act.put, nA, nB, nC])
  refine wpAnyM_take 31 (v := ?_) rfl (by kernel_rfl) (fun _ _ _ h => h) (Or.inl ⟨by rfl, ?_⟩) (by assumption) ?_
  rotate_left
  · (intro wx hSw; (try dsimp only at hSw); go_simp; (try with_reducible rfl))
  (try simp only [Act.put, nA, nB, nC])
  refine wpAnyM_take 32 (v := ?_) rfl (by kernel_rfl) (fun _ _ _ h => h) (Or.inl ⟨by rfl, ?_⟩) (by assumption) ?_
  rotate_left
  · (intro wx hSw; (try dsimp only at hSw); go_simp; (try with_reducible rfl))
  (try simp only [Act.put, nA, nB, nC])
  first | (refine wpAnyM_take 33 (v := ?_) rfl (by kernel_rfl) (fun _ _ _ h => h) (Or.inl ⟨by rfl, ?_⟩) (by assumption) ?_; rotate_left; focus ((intro wx hSw; (try dsimp only at hSw); go_simp; (try with_reducible rfl)))) | (refine wpAnyM_take 33 rfl (by kernel_rfl) (fun _ _ _ h => h) (Or.inr ⟨by rfl, rfl⟩) (by assumption) ?_)
  (try simp only [Act.put, nA, nB, nC])
  first | (refine wpAnyM_take 34 (v := ?_) rfl (by kernel_rfl) (fun _ _ _ h => h) (Or.inl ⟨by rfl, ?_⟩) (by assumption) ?_; rotate_left; focus ((intro wx hSw; (try dsimp only at hSw); go_simp; (try with_reducible rfl)))) | (refine wpAnyM_take 34 rfl (by kernel_rfl) (fun _ _ _ h => h) (Or.inr ⟨by rfl, rfl⟩) (by assumption) ?_)
  (try simp only [Act.put, nA, nB, nC])
  first | (refine wpAnyM_take 35 (v := ?_) rfl (by kernel_rfl) (fun _ _ _ h => h) (Or.inl ⟨by rfl, ?_⟩) (by assumption) ?_; rotate_left; focus ((intro wx hSw; have h0 := hSw.2.1.cell (i := 6) (by decide); rw [show p0 6 = -84238486 from rfl] at h0; go_simp; (try with_reducible rfl)))) | (refine wpAnyM_take 35 rfl (by kernel_rfl) (fun _ _ _ h => h) (Or.inr ⟨by rfl, rfl⟩) (by assumption) ?_)
  (try simp only [Act.put, nA, nB, nC])
  first | (refine wpAnyM_take 36 (v := ?_) rfl (by kernel_rfl) (fun _ _ _ h => h) (Or.inl ⟨by rfl, ?_⟩) (by assumption) ?_; rotate_left; focus ((intro wx hSw; (try dsimp only at hSw); go_simp; (try with_reducible rfl)))) | (refine wpAnyM_take 36 rfl (by kernel_rfl) (fun _ _ _ h => h) (Or.inr ⟨by rfl, rfl⟩) (by assumption) ?_)
  (try simp only [Act.put, nA, nB, nC])
  refine wpAnyM_take 37 (v := ?_) rfl (by kernel_rfl) (fun _ _ _ h => h) (Or.inl ⟨by rfl, ?_⟩) (by assumption) ?_
  rotate_left
  · (intro wx hSw; (try dsimp only at hSw); go_simp; (try with_reducible rfl))
  (try simp only [Act.put, nA, nB, nC])
  refine wpAnyM_take 38 (v := ?_) rfl (by kernel_rfl) (fun _ _ _ h => h) (Or.inl ⟨by rfl, ?_⟩) (by assumption) ?_
  rotate_left
  · (intro wx hSw; (try dsimp only at hSw); go_simp; (try with_reducible rfl))
  (try simp only [Act.put, nA, nB, nC])
  first | (refine wpAnyM_take 39 (v := ?_) rfl (by kernel_rfl) (fun _ _ _ h => h) (Or.inl ⟨by rfl, ?_⟩) (by assumption) ?_; rotate_left; focus ((intro wx hSw; (try dsimp only at hSw); go_simp; (try with_reducible rfl)))) | (refine wpAnyM_take 39 rfl (by kernel_rfl) (fun _ _ _ h => h) (Or.inr ⟨by rfl, rfl⟩) (by assumption) ?_)
  (try simp only [Act.put, nA, nB, nC])
  first | (refine wpAnyM_take 40 (v := ?_) rfl (by kernel_rfl) (fun _ _ _ h => h) (Or.inl ⟨by rfl, ?_⟩) (by assumption) ?_; rotate_left; focus ((intro wx hSw; (try dsimp only at hSw); go_simp; (try with_reducible rfl)))) | (refine wpAnyM_take 40 rfl (by kernel_rfl) (fun _ _ _ h => h) (Or.inr ⟨by rfl, rfl⟩) (by assumption) ?_)
  (try simp only [Act.put, nA, nB, nC])
  first | (refine wpAnyM_take 41 (v := ?_) rfl (by kernel_rfl) (fun _ _ _ h => h) (Or.inl ⟨by rfl, ?_⟩) (by assumption) ?_; rotate_left; focus ((intro wx hSw; (try dsimp only at hSw); go_simp; (try with_reducible rfl)))) | (refine wpAnyM_take 41 rfl (by kernel_rfl) (fun _ _ _ h => h) (Or.inr ⟨by rfl, rfl⟩) (by assumption) ?_)
  (try simp only [Act.put, nA, nB, nC])
  first | (refine wpAnyM_take 42 (v := ?_) rfl (by kernel_rfl) (fun _ _ _ h => h) (Or.inl ⟨by rfl, ?_⟩) (by assumption) ?_; rotate_left; focus ((intro wx hSw; have h0 := hSw.2.2; go_simp; (try with_reducible rfl)))) | (refine wpAnyM_take 42 rfl (by kernel_rfl) (fun _ _ _ h => h) (Or.inr ⟨by rfl, rfl⟩) (by assumption) ?_)
  (try simp only [Act.put, nA, nB, nC])
  first | (refine wpAnyM_take 43 (v := ?_) rfl (by kernel_rfl) (fun _ _ _ h => h) (Or.inl ⟨by rfl, ?_⟩) (by assumption) ?_; rotate_left; focus ((intro wx hSw; (try dsimp only at hSw); go_simp; (try with_reducible rfl)))) | (refine wpAnyM_take 43 rfl (by kernel_rfl) (fun _ _ _ h => h) (Or.inr ⟨by rfl, rfl⟩) (by assumption) ?_)
  (try simp only [Act.put, nA, nB, nC])
  refine wpAnyM_take 44 (v := ?_) rfl (by kernel_rfl) (fun _ _ _ h => h) (Or.inl ⟨by rfl, ?_⟩) (by assumption) ?_
  rotate_left
  · (intro wx hSw; (try dsimp only at hSw); go_simp; (try with_reducible rfl))
  (try simp only [Act.put, nA, nB, nC])
  refine wpAnyM_one 45 rfl (by kernel_rfl) (fun K hK => ?_)
  go_simp
  refine hK.out _ _ (.inl (by kernel_rfl)) (fun _ => ?_)
  clear hK K
  (try simp only [Act.put, nA, nB, nC])
  refine wpAnyM_done (by kernel_rfl) ?_ _
  go_wp2_with fail
  go_ret
  exact ⟨rfl, HS.out.a.below⟩
end Go.Proofs.Ytgpnopiinogkmaa
/- Contracts of package rot (5): FromYaw. -/
namespace Go.Proofs.Ytgpnopiinogkmaa
open Go.RowKit
set_option maxRecDepth 100000
/-- The blocks of rot.FromYaw. -/
structure FyR (c : Addr) (h : Bool) (w wr : World) : Prop where
  upd : Upd c h w wr
  r : Blk wr w.heap.size 27 4 (fun _ => 0)
  cell : wr.cell? c = some (.bool h)
  free : wr.frozen? c = false
  cb : c.block < w.heap.size
theorem FyR.upd' {c : Addr} {h h' : Bool} {w wr w' : World} (s : FyR c h w wr) (u : Upd c h' wr w') : FyR c h' w w' := by
  have hcb := s.cb
  exact ⟨s.upd.trans u, s.r.upd u (by omega), u.cellc s.cell, (u.frozen (World.block_lt_of_cell? _ _ s.cell)).trans s.free, s.cb⟩
theorem fy_start (c : Addr) (h : Bool) (w : World) (hc : w.cell? c = some (.bool h)) (hf : w.frozen? c = false) :
    FyR c h w (w.alloc (.cells #[.int .i64 0, .int .i64 0, .int .i64 0, .int .i64 0] 27)) := by
  have hcb := World.block_lt_of_cell? w c hc
  have bl : Below w.heap.size w (w.alloc (.cells #[.int .i64 0, .int .i64 0, .int .i64 0, .int .i64 0] 27)) := by (repeat (first | with_reducible exact Below.refl _ _ | with_reducible apply Below.drew | (with_reducible refine below_drewN ?_ _) | (with_reducible refine Below.alloc ?_ (by (try simp) <;> omega) _) | (with_reducible refine Below.setCell ?_ (by (try simp) <;> omega) _)))
  refine ⟨Upd.then (Upd.refl hc) bl, ?_, (bl.cell hcb).trans hc, (bl.frozen hcb).trans hf, hcb⟩
  rw [zq4]; exact Blk.new w _ 4 _
set_option maxHeartbeats 8000000 in
theorem fromyaw_any (c : Addr) (h : Bool) (a : Int) (w : World) (hc : w.cell? c = some (.bool h)) (hf : w.frozen? c = false) :
    Calls Try.prog 5 #[.pointer (some c), .int .i64 a] w fun e w' => e = .returned (.agg (arrv 4 (fyV a))) ∧ Upd c (h || fyH a) w w' := by
  have S0 := Lib.hid (fy_start c h w hc hf)
  have WC := fun (x : World) => wrap_any a x
  have MC := fun (x : World) (k : x.cell? c = some (.bool h)) (f : x.frozen? c = false) => fmul_any c h (wrpV a) 536870912 30 x k f
  have HV : fyV a = uniV (q4 (cosV (fyM a)) 0 0 (sinV (fyM a))) ∧ (h || fyH a) = (h || mulH (wrpV a) 536870912 30 || cosH (fyM a) || sinH (fyM a) || uniH (q4 (cosV (fyM a)) 0 0 (sinV (fyM a)))) := ⟨rfl, by unfold fyH; simp [Bool.or_assoc]⟩
  rw [show mulV (wrpV a) 536870912 30 = fyM a from rfl] at MC
  obtain ⟨W, hW⟩ : ∃ x, wrpV a = x := ⟨_, rfl⟩
  obtain ⟨M, hM⟩ : ∃ x, fyM a = x := ⟨_, rfl⟩
  rw [hW] at WC MC HV
  rw [hM] at MC HV
  obtain ⟨H1, hH1⟩ : ∃ x, (h || mulH W 536870912 30) = x := ⟨_, rfl⟩
  rw [hH1] at MC HV
  have CC := fun (x : World) (k : x.cell? c = some (.bool H1)) (f : x.frozen? c = false) => cos_any c H1 M x k f
  obtain ⟨C, hC⟩ : ∃ x, cosV M = x := ⟨_, rfl⟩
  obtain ⟨H2, hH2⟩ : ∃ x, (H1 || cosH M) = x := ⟨_, rfl⟩
  rw [hC, hH2] at CC
  rw [hC, hH2] at HV
  have NN := fun (x : World) (k : x.cell? c = some (.bool H2)) (f : x.frozen? c = false) => sin_any c H2 M x k f
  obtain ⟨S, hS⟩ : ∃ x, sinV M = x := ⟨_, rfl⟩
  obtain ⟨H3, hH3⟩ : ∃ x, (H2 || sinH M) = x := ⟨_, rfl⟩
  rw [hS, hH3] at NN
  rw [hS, hH3] at HV
  have UC := fun (x : World) (k : x.cell? c = some (.bool H3)) (f : x.frozen? c = false) => qunit_any c H3 (q4 C 0 0 S) x k f
  obtain ⟨E, hE⟩ : ∃ x, uniV (q4 C 0 0 S) = x := ⟨_, rfl⟩
  rw [hE] at UC HV
  have WC := Lib.hid WC
  have MC := Lib.hid MC
  have CC := Lib.hid CC
  have NN := Lib.hid NN
  have UC := Lib.hid UC
  have HV := Lib.hid HV
  clear hW hM hH1 hC hH2 hS hH3 hE hc hf
  go_enter Try.func5, Try.ntmps5
  go_upto_region 1 with fail
  generalize w.alloc (.cells #[.int .i64 0, .int .i64 0, .int .i64 0, .int .i64 0] 27) = W0 at *
  go_upto_region 2 with (first | (go_at_call 15; (refine (WC.out _).mono ?_); rintro e w1 ⟨rfl, rfl⟩) | (go_at_call 14; (refine (MC.out _ S0.out.cell S0.out.free).mono ?_); rintro e w2 ⟨rfl, hu⟩; have S1 := Lib.hid (S0.out.upd' hu); clear hu S0))
  refine wp_region_lit ?_
  refine wpList_val (v := ?_) rfl ?_ ?_
  rotate_left
  · (go_simp; (try (first | with_reducible rfl | (constructor <;> with_reducible rfl))))
  (try simp only [Act.put, nA, nB, nC])
  refine wpList_val (v := ?_) rfl ?_ ?_
  rotate_left
  · (go_simp; (try (first | with_reducible rfl | (constructor <;> with_reducible rfl))))
  (try simp only [Act.put, nA, nB, nC])
  refine wpList_val (v := ?_) rfl ?_ ?_
  rotate_left
  · (go_simp; (try (first | with_reducible rfl | (constructor <;> with_reducible rfl))))
  (try simp only [Act.put, nA, nB, nC])
  refine wpList_step (fun K hK => ?_)
  go_simp
  (refine (CC.out _ S1.out.cell S1.out.free).mono ?_); rintro e w3 ⟨rfl, hu⟩; have S2 := Lib.hid (S1.out.upd' hu); clear hu S1
  (try dsimp only)
  (try simp only [Act.put, nA, nB, nC])
  refine hK _ _ ?_
  clear hK K
  refine wpList_val (v := ?_) rfl ?_ ?_
  rotate_left
  · (go_simp; (try (first | with_reducible rfl | (constructor <;> with_reducible rfl))))
  (try simp only [Act.put, nA, nB, nC])
  refine wpList_val (v := ?_) rfl ?_ ?_
  rotate_left
  · (go_simp; (try (first | with_reducible rfl | (constructor <;> with_reducible rfl))))
  (try simp only [Act.put, nA, nB, nC])
  refine wpList_step (fun K hK => ?_)
  go_simp
  (refine (NN.out _ S2.out.cell S2.out.free).mono ?_); rintro e w4 ⟨rfl, hu⟩; have S3 := Lib.hid (S2.out.upd' hu); clear hu S2
  (try dsimp only)
  (try simp only [Act.put, nA, nB, nC])
  refine hK _ _ ?_
  clear hK K
  refine wpList_val (v := ?_) rfl ?_ ?_
  rotate_left
  · (refine Eq.trans (run_build_q4' (.tmp 13) (.tmp 16) (by rfl) (by rfl) (by rfl)) ?_; with_reducible rfl)
  (try simp only [Act.put, nA, nB, nC])
  refine wpList_step (fun K hK => ?_)
  go_simp
  (refine (UC.out _ S3.out.cell S3.out.free).mono ?_); rintro e w5 ⟨rfl, hu⟩; have S4 := Lib.hid (S3.out.upd' hu); clear hu S3
  (try dsimp only)
  (try simp only [Act.put, nA, nB, nC])
  refine hK _ _ ?_
  clear hK K
  refine wpList_done (w' := ?_) rfl ?_ ?_
  rotate_left
  · (refine Eq.trans (run_store_row 27 (.tmp 4) (.tmp 18) (by rfl) w.heap.size (by rfl) (by rfl) S4.out.r (iqt.trans rfl)) ?_; with_reducible rfl)
  (try simp only [Act.put, nA, nB, nC])
  refine wpList_nil ?_
  have r1 := S4.out.r.setRow E
  have B1 := S4.out.upd.then' (below_row (Below.refl _ _) (Nat.le_refl w.heap.size) (arrv 4 E))
  rw [← HV.out.2] at B1
  generalize w5.setRow w.heap.size (arrv 4 E) = W6 at *
  go_wp2_with fail
  refine bodyPost_ret (results_cell_row Try.results5 _ _ w.heap.size 27 (arrv 4 E) (0, 0) _ rfl r1 Try.underlying27 rfl (iqt.trans (by rw [arrv_size]))) rfl ⟨by rw [HV.out.1], B1⟩
end Go.Proofs.Ytgpnopiinogkmaa
/- Stores in a region that draws its order, by their runs: the walk's goal is never looked into. -/
namespace Go.Proofs.Ytgpnopiinogkmaa
open Go.RowKit
open Go in
/-- The last operation that changes the world (a store), by its run: the walk's goal is never looked into. -/
theorem wpAnyM_doneL {P : Program} {ops : Array Oper} {Q : Exit → Act → World → Prop} {md : Region.Mode} {L : Nat} {S : World → Prop} (i : Nat) {o : Oper} {fuel : Nat} {listed : Array Bool} {a : Act} {w w' : World} (ho : ops.toList[i]? = some o) (hr : Region.ready md ops listed = [i])
    (hw : Region.wanted o (yielded ops a.tmps) = true) (hl : (listed.setIfInBounds i true).getD L false = true) (hy : (execOp a.eval o).run P w = .ok .skip w') (h : wpAnyM P md ops Q S L fuel (listed.setIfInBounds i true) (a.put o.dst undef) w') :
    wpAnyM P md ops Q S L (fuel + 1) listed a w :=
  wpAnyM_one i ho hr fun K hK => by
    rw [if_pos hw]
    exact wp_of_run hy (hK.out _ _ (.inl hl) fun _ => h)
end Go.Proofs.Ytgpnopiinogkmaa
/- Roundings: how far from the quotient. No program. -/
namespace Go.Proofs.Ytgpnopiinogkmaa
def SB (x : Int) : Prop := -1152921504606846976 ≤ x ∧ x ≤ 1152921504606846976
theorem satV_sb {x : Int} (h : SB x) : satV x = x := satV_id h.1 h.2
theorem satH_sb {x : Int} (h : SB x) : satH x = false := satH_no h.1 h.2
theorem rdiv_err {x d : Int} (hd : 0 < d) : -d ≤ 2 * (d * rdiv x d - x) ∧ 2 * (d * rdiv x d - x) ≤ d := by
  have key : ∀ n k : Nat, 0 < k → -(k : Int) ≤ 2 * ((k : Int) * (((2 * n + k) / (2 * k) : Nat) : Int) - n) ∧ 2 * ((k : Int) * (((2 * n + k) / (2 * k) : Nat) : Int) - n) ≤ k := by
    intro n k hk
    have h1 := Nat.div_add_mod (2 * n + k) (2 * k)
    have h2 := Nat.mod_lt (2 * n + k) (show 0 < 2 * k by omega)
    generalize (2 * n + k) / (2 * k) = q at *
    generalize (2 * n + k) % (2 * k) = r at *
    have h3 : ((2 * k * q + r : Nat) : Int) = ((2 * n + k : Nat) : Int) := by rw [h1]
    rw [Int.natCast_add, Int.natCast_mul, Int.natCast_mul, Int.natCast_add, Int.natCast_mul, Int.mul_assoc] at h3
    generalize (k : Int) * (q : Int) = z at *
    omega
  have hk : (d.natAbs : Int) = d := by omega
  have h := key x.natAbs d.natAbs (by omega)
  rw [hk] at h
  unfold rdiv
  by_cases hx : 0 ≤ x
  · rw [if_pos (by simp [hx, hd])]
    rw [show (x.natAbs : Int) = x by omega] at h
    exact h
  · rw [if_neg (by simp [hx, hd])]
    rw [show (x.natAbs : Int) = -x by omega] at h
    rw [Int.mul_neg]
    generalize d * (((2 * x.natAbs + d.natAbs) / (2 * d.natAbs) : Nat) : Int) = z at *
    omega
theorem rsh_err (x : Int) : -1073741824 ≤ 2 * (1073741824 * rsh x 30 - x) ∧ 2 * (1073741824 * rsh x 30 - x) ≤ 1073741824 := by
  have h2 : ((2 : Int) ^ 30) = 1073741824 := by decide
  unfold rsh; rw [h2]
  exact rdiv_err (by decide)
theorem mul_bd {x y X Y : Int} (hx : -X ≤ x ∧ x ≤ X) (hy : -Y ≤ y ∧ y ≤ Y) : -(X * Y) ≤ x * y ∧ x * y ≤ X * Y := by
  have hX : 0 ≤ X := by omega
  have hY : 0 ≤ Y := by omega
  have e : ((x * y).natAbs : Int) ≤ X * Y := by
    rw [Int.natAbs_mul, Int.natCast_mul]
    exact Int.mul_le_mul (by omega) (by omega) (by omega) hX
  generalize X * Y = Z at *
  generalize x * y = z at *
  omega
theorem mulV_of {a b : Int} (ha : SB a) (hb : SB b) (h : SB (rsh (a * b) 30)) : mulV a b 30 = rsh (a * b) 30 ∧ mulH a b 30 = false := by
  unfold mulV mulH
  rw [if_neg (by decide), satV_sb ha, satV_sb hb, show (30 : Int).toNat = 30 from rfl, satV_sb h, satH_sb ha, satH_sb hb, satH_sb h]
  exact ⟨rfl, by decide⟩
end Go.Proofs.Ytgpnopiinogkmaa
/- Polynomials by their coefficients; the addition of sines and cosines, as polynomials, within a little. No program. -/
namespace Go.Proofs.Ytgpnopiinogkmaa
set_option maxRecDepth 100000
def pv : List Int → Int → Int
  | [], _ => 0
  | a :: l, x => a + x * pv l x
def pv2 : List (List Int) → Int → Int → Int
  | [], _, _ => 0
  | p :: l, x, y => pv p y + x * pv2 l x y
def padd : List Int → List Int → List Int
  | [], l => l
  | a :: k, [] => a :: k
  | a :: k, b :: l => (a + b) :: padd k l
theorem pv_add (x : Int) : ∀ k l, pv (padd k l) x = pv k x + pv l x
  | [], l => by simp [padd, pv]
  | a :: k, [] => by simp [padd, pv]
  | a :: k, b :: l => by simp only [padd, pv]; rw [pv_add x k l, Int.mul_add]; omega
def psc (c : Int) (l : List Int) : List Int := l.map (c * ·)
theorem pv_sc (c x : Int) : ∀ l, pv (psc c l) x = c * pv l x
  | [] => by simp [psc, pv]
  | a :: l => by
    have h := pv_sc c x l
    unfold psc at h ⊢
    simp only [List.map_cons, pv]
    rw [h]; grind
def padd2 : List (List Int) → List (List Int) → List (List Int)
  | [], l => l
  | a :: k, [] => a :: k
  | a :: k, b :: l => padd a b :: padd2 k l
theorem pv2_add (x y : Int) : ∀ k l, pv2 (padd2 k l) x y = pv2 k x y + pv2 l x y
  | [], l => by simp [padd2, pv2]
  | a :: k, [] => by simp [padd2, pv2]
  | a :: k, b :: l => by simp only [padd2, pv2]; rw [pv2_add x y k l, pv_add, Int.mul_add]; omega
def psc2 (c : Int) (l : List (List Int)) : List (List Int) := l.map (psc c)
theorem pv2_sc (c x y : Int) : ∀ l, pv2 (psc2 c l) x y = c * pv2 l x y
  | [] => by simp [psc2, pv2]
  | a :: l => by
    have h := pv2_sc c x y l
    unfold psc2 at h ⊢
    simp only [List.map_cons, pv2]
    rw [h, pv_sc]; grind
/-- A polynomial in x by one in y. -/
def pout (k l : List Int) : List (List Int) := k.map fun a => psc a l
theorem pv2_out (x y : Int) (l : List Int) : ∀ k, pv2 (pout k l) x y = pv k x * pv l y
  | [] => by simp [pout, pv, pv2]
  | a :: k => by
    have h := pv2_out x y l k
    unfold pout at h ⊢
    simp only [List.map_cons, pv, pv2]
    rw [h, pv_sc]; grind
theorem pv2_y (x y : Int) : ∀ l : List (List Int), pv2 (l.map (fun p => (0 : Int) :: p)) x y = y * pv2 l x y
  | [] => by simp [pv2]
  | a :: l => by
    have h := pv2_y x y l
    simp only [List.map_cons, pv2, pv]
    rw [h]; grind
/-- A polynomial of the sum of two. -/
def psum : List Int → List (List Int)
  | [] => []
  | a :: l => padd2 [[a]] (padd2 ([] :: psum l) ((psum l).map (fun p => (0 : Int) :: p)))
theorem pv2_sum (x y : Int) : ∀ l, pv2 (psum l) x y = pv l (x + y)
  | [] => rfl
  | a :: l => by
    have h := pv2_sum x y l
    simp only [psum]
    rw [pv2_add, pv2_add, pv2_y, h]
    simp only [pv2, pv]
    rw [h]; grind
/-- A polynomial of c + s v, in v. -/
def pcomp (c s : Int) : List Int → List Int
  | [] => []
  | a :: l => padd [a] (padd (psc c (pcomp c s l)) (0 :: psc s (pcomp c s l)))
theorem pv_comp (c s v : Int) : ∀ l, pv (pcomp c s l) v = pv l (c + s * v)
  | [] => rfl
  | a :: l => by
    have h := pv_comp c s v l
    simp only [pcomp]
    rw [pv_add, pv_add, pv_sc]
    simp only [pv]
    rw [pv_sc, h]; grind
def pab : List Int → Int → Int
  | [], _ => 0
  | a :: l, X => (a.natAbs : Int) + X * pab l X
def pab2 : List (List Int) → Int → Int → Int
  | [], _, _ => 0
  | p :: l, X, Y => pab p Y + X * pab2 l X Y
theorem pv_bd {x X : Int} (h : -X ≤ x ∧ x ≤ X) : ∀ l, -(pab l X) ≤ pv l x ∧ pv l x ≤ pab l X
  | [] => by simp [pv, pab]
  | a :: l => by
    have m := mul_bd h (pv_bd h l)
    simp only [pv, pab]
    omega
theorem pv2_bd {x X y Y : Int} (h : -X ≤ x ∧ x ≤ X) (k : -Y ≤ y ∧ y ≤ Y) : ∀ l, -(pab2 l X Y) ≤ pv2 l x y ∧ pv2 l x y ≤ pab2 l X Y
  | [] => by simp [pv2, pab2]
  | a :: l => by
    have m := mul_bd h (pv2_bd h k l)
    have p := pv_bd k a
    simp only [pv2, pab2]
    omega
/-- The sine's and the cosine's polynomials, by 2^360. -/
def sinP : List Int := [0, 1073741824 * 1073741824 ^ 11, 0, -178956971 * 1073741824 ^ 9, 0, 8947849 * 1073741824 ^ 7, 0, -213044 * 1073741824 ^ 5, 0, 2959 * 1073741824 ^ 3, 0, -27 * 1073741824]
def cosP : List Int := [1073741824 * 1073741824 ^ 12, 0, -536870912 * 1073741824 ^ 10, 0, 44739243 * 1073741824 ^ 8, 0, -1491308 * 1073741824 ^ 6, 0, 26631 * 1073741824 ^ 4, 0, -296 * 1073741824 ^ 2, 0, 2]
def sF (x : Int) : Int := pv sinP x
def cF (x : Int) : Int := pv cosP x
/-- What the sum's polynomial and the sum of products differ by, at most. -/
theorem sF_add {x y : Int} (hx : -876869300 ≤ x ∧ x ≤ 876869300) (hy : -33554440 ≤ y ∧ y ≤ 33554440) :
    -(1073741824 ^ 25) ≤ 1073741824 ^ 13 * sF (x + y) - (sF x * cF y + cF x * sF y) ∧ 1073741824 ^ 13 * sF (x + y) - (sF x * cF y + cF x * sF y) ≤ 1073741824 ^ 25 := by
  have e : pv2 (padd2 (psc2 (1073741824 ^ 13) (psum sinP)) (psc2 (-1) (padd2 (pout sinP cosP) (pout cosP sinP)))) x y = 1073741824 ^ 13 * sF (x + y) - (sF x * cF y + cF x * sF y) := by
    rw [pv2_add, pv2_sc, pv2_sc, pv2_sum, pv2_add, pv2_out, pv2_out]
    unfold sF cF
    generalize pv sinP x * pv cosP y = a
    generalize pv cosP x * pv sinP y = b
    omega
  have b : pab2 (padd2 (psc2 (1073741824 ^ 13) (psum sinP)) (psc2 (-1) (padd2 (pout sinP cosP) (pout cosP sinP)))) 876869300 33554440 ≤ 1073741824 ^ 25 := by decide +kernel
  have k := pv2_bd hx hy (padd2 (psc2 (1073741824 ^ 13) (psum sinP)) (psc2 (-1) (padd2 (pout sinP cosP) (pout cosP sinP))))
  rw [e] at k
  exact ⟨Int.le_trans (Int.neg_le_neg b) k.1, Int.le_trans k.2 b⟩
theorem cF_add {x y : Int} (hx : -876869300 ≤ x ∧ x ≤ 876869300) (hy : -33554440 ≤ y ∧ y ≤ 33554440) :
    -(1073741824 ^ 25) ≤ 1073741824 ^ 13 * cF (x + y) - (cF x * cF y - sF x * sF y) ∧ 1073741824 ^ 13 * cF (x + y) - (cF x * cF y - sF x * sF y) ≤ 1073741824 ^ 25 := by
  have e : pv2 (padd2 (psc2 (1073741824 ^ 13) (psum cosP)) (padd2 (psc2 (-1) (pout cosP cosP)) (pout sinP sinP))) x y = 1073741824 ^ 13 * cF (x + y) - (cF x * cF y - sF x * sF y) := by
    rw [pv2_add, pv2_sc, pv2_sum, pv2_add, pv2_sc, pv2_out, pv2_out]
    unfold sF cF
    generalize pv sinP x * pv sinP y = a
    generalize pv cosP x * pv cosP y = b
    omega
  have b : pab2 (padd2 (psc2 (1073741824 ^ 13) (psum cosP)) (padd2 (psc2 (-1) (pout cosP cosP)) (pout sinP sinP))) 876869300 33554440 ≤ 1073741824 ^ 25 := by decide +kernel
  have k := pv2_bd hx hy (padd2 (psc2 (1073741824 ^ 13) (psum cosP)) (padd2 (psc2 (-1) (pout cosP cosP)) (pout sinP sinP)))
  rw [e] at k
  exact ⟨Int.le_trans (Int.neg_le_neg b) k.1, Int.le_trans k.2 b⟩
/-- At an eighth of a turn sine and cosine change their places. -/
theorem sc_near {v : Int} (hv : -33554445 ≤ v ∧ v ≤ 33554445) :
    -(2 * 1073741824 ^ 12) ≤ sF (1686629713 - (843314857 + v)) - cF (843314857 + v) ∧ sF (1686629713 - (843314857 + v)) - cF (843314857 + v) ≤ 2 * 1073741824 ^ 12 := by
  have e : pv (padd (pcomp 843314856 (-1) sinP) (psc (-1) (pcomp 843314857 1 cosP))) v = sF (1686629713 - (843314857 + v)) - cF (843314857 + v) := by
    rw [pv_add, pv_sc, pv_comp, pv_comp]
    unfold sF cF
    rw [show (843314856 : Int) + -1 * v = 1686629713 - (843314857 + v) by omega, show (843314857 : Int) + 1 * v = 843314857 + v by omega]
    omega
  have b : pab (padd (pcomp 843314856 (-1) sinP) (psc (-1) (pcomp 843314857 1 cosP))) 33554445 ≤ 2 * 1073741824 ^ 12 := by decide +kernel
  have k := pv_bd hv (padd (pcomp 843314856 (-1) sinP) (psc (-1) (pcomp 843314857 1 cosP)))
  rw [e] at k
  exact ⟨Int.le_trans (Int.neg_le_neg b) k.1, Int.le_trans k.2 b⟩
theorem sF_neg (x : Int) : sF (-x) = -sF x := by
  have e : pcomp 0 (-1) sinP = psc (-1) sinP := by decide +kernel
  have h := pv_comp 0 (-1) x sinP
  rw [e, pv_sc] at h
  unfold sF
  rw [show (-x) = 0 + -1 * x by omega, ← h]; omega
theorem cF_neg (x : Int) : cF (-x) = cF x := by
  have e : pcomp 0 (-1) cosP = cosP := by decide +kernel
  have h := pv_comp 0 (-1) x cosP
  rw [e] at h
  unfold cF
  rw [show (-x) = 0 + -1 * x by omega, ← h]
def pmul : List Int → List Int → List Int
  | [], _ => []
  | a :: k, l => padd (psc a l) (0 :: pmul k l)
theorem pv_mul (x : Int) (l : List Int) : ∀ k, pv (pmul k l) x = pv k x * pv l x
  | [] => by simp [pmul, pv]
  | a :: k => by
    have h := pv_mul x l k
    simp only [pmul]
    rw [pv_add, pv_sc]
    simp only [pv]
    rw [h]; grind
/-- The squares of both sum to One's. -/
theorem sc_norm {x : Int} (hx : -876869300 ≤ x ∧ x ≤ 876869300) :
    -(1073741824 ^ 25) ≤ cF x * cF x + sF x * sF x - 1073741824 ^ 26 ∧ cF x * cF x + sF x * sF x - 1073741824 ^ 26 ≤ 1073741824 ^ 25 := by
  have e : pv (padd (padd (pmul cosP cosP) (pmul sinP sinP)) [-(1073741824 ^ 26)]) x = cF x * cF x + sF x * sF x - 1073741824 ^ 26 := by
    rw [pv_add, pv_add, pv_mul, pv_mul]
    unfold sF cF
    simp only [pv]
    generalize pv sinP x * pv sinP x = a
    generalize pv cosP x * pv cosP x = b
    omega
  have b : pab (padd (padd (pmul cosP cosP) (pmul sinP sinP)) [-(1073741824 ^ 26)]) 876869300 ≤ 1073741824 ^ 25 := by decide +kernel
  have k := pv_bd hx (padd (padd (pmul cosP cosP) (pmul sinP sinP)) [-(1073741824 ^ 26)])
  rw [e] at k
  exact ⟨Int.le_trans (Int.neg_le_neg b) k.1, Int.le_trans k.2 b⟩
end Go.Proofs.Ytgpnopiinogkmaa
/- Cosine and sine of an angle within half a turn, exactly, as polynomials by quarters: their addition. No program. -/
namespace Go.Proofs.Ytgpnopiinogkmaa
set_option maxRecDepth 100000
/-- Cosine and sine of an angle up to a little more than a quarter of a turn, by 2^360. -/
def anC (h : Int) : Int := if 843314857 < h then sF (1686629713 - h) else if h < -843314857 then sF (1686629713 + h) else cF h
def anS (h : Int) : Int := if 843314857 < h then cF (1686629713 - h) else if h < -843314857 then -(cF (1686629713 + h)) else sF h
theorem anC_neg (h : Int) : anC (-h) = anC h := by
  unfold anC
  by_cases h1 : 843314857 < h
  · rw [if_neg (by omega), if_pos (by omega), if_pos h1]; congr 1
  · by_cases h2 : h < -843314857
    · rw [if_pos (by omega), if_neg h1, if_pos h2]; congr 1; omega
    · rw [if_neg (by omega), if_neg (by omega), if_neg h1, if_neg h2, cF_neg]
theorem anS_neg (h : Int) : anS (-h) = -anS h := by
  unfold anS
  by_cases h1 : 843314857 < h
  · rw [if_neg (by omega), if_pos (by omega), if_pos h1]; congr 2
  · by_cases h2 : h < -843314857
    · rw [if_pos (by omega), if_neg h1, if_pos h2, Int.neg_neg]; congr 1; omega
    · rw [if_neg (by omega), if_neg (by omega), if_neg h1, if_neg h2, sF_neg]
/-- What is left of the addition, at most. -/
def AddE (a b : Int) : Prop := -(3 * 1073741824 ^ 25) ≤ 1073741824 ^ 13 * a - b ∧ 1073741824 ^ 13 * a - b ≤ 3 * 1073741824 ^ 25
theorem adde_of {a b c : Int} (h : -(1073741824 ^ 25) ≤ 1073741824 ^ 13 * a - b ∧ 1073741824 ^ 13 * a - b ≤ 1073741824 ^ 25) (k : -(2 * 1073741824 ^ 12) ≤ c - a ∧ c - a ≤ 2 * 1073741824 ^ 12) : AddE c b := by
  unfold AddE
  have e : (1073741824 : Int) ^ 25 = 1073741824 ^ 13 * 1073741824 ^ 12 := by decide
  constructor <;> omega
theorem adde_id {a b : Int} (h : -(1073741824 ^ 25) ≤ 1073741824 ^ 13 * a - b ∧ 1073741824 ^ 13 * a - b ≤ 1073741824 ^ 25) : AddE a b := adde_of h (by omega)
theorem an_addP {h y : Int} (h0 : -843314857 ≤ h) (h1 : h ≤ 1720184150) (hy : -33554440 ≤ y ∧ y ≤ 33554440) (k0 : -843314857 ≤ h + y) (k1 : h + y ≤ 1720184150) :
    AddE (anC (h + y)) (anC h * cF y - anS h * sF y) ∧ AddE (anS (h + y)) (anS h * cF y + anC h * sF y) := by
  unfold anC anS
  by_cases c1 : 843314857 < h
  · have S := sF_add (x := 1686629713 - h) (y := -y) ⟨by omega, by omega⟩ ⟨by omega, by omega⟩
    have C := cF_add (x := 1686629713 - h) (y := -y) ⟨by omega, by omega⟩ ⟨by omega, by omega⟩
    rw [sF_neg, cF_neg, show 1686629713 - h + -y = 1686629713 - (h + y) by omega] at S C
    rw [show sF (1686629713 - h) * cF y + cF (1686629713 - h) * -sF y = sF (1686629713 - h) * cF y - cF (1686629713 - h) * sF y by rw [Int.mul_neg]; omega] at S
    rw [show cF (1686629713 - h) * cF y - sF (1686629713 - h) * -sF y = cF (1686629713 - h) * cF y + sF (1686629713 - h) * sF y by rw [Int.mul_neg]; omega] at C
    by_cases c2 : 843314857 < h + y
    · simp only [if_pos c1, if_pos c2]
      exact ⟨adde_id S, adde_id C⟩
    · simp only [if_pos c1, if_neg c2, if_neg (show ¬ h + y < -843314857 by omega)]
      have n1 := sc_near (v := h + y - 843314857) ⟨by omega, by omega⟩
      have n2 := sc_near (v := 1686629713 - (h + y) - 843314857) ⟨by omega, by omega⟩
      rw [show 843314857 + (h + y - 843314857) = h + y by omega] at n1
      rw [show 843314857 + (1686629713 - (h + y) - 843314857) = 1686629713 - (h + y) by omega, show 1686629713 - (1686629713 - (h + y)) = h + y by omega] at n2
      exact ⟨adde_of S (by omega), adde_of C (by omega)⟩
  · simp only [if_neg c1, if_neg (show ¬ h < -843314857 by omega)]
    have S := sF_add (x := h) (y := y) ⟨by omega, by omega⟩ ⟨by omega, by omega⟩
    have C := cF_add (x := h) (y := y) ⟨by omega, by omega⟩ ⟨by omega, by omega⟩
    by_cases c2 : 843314857 < h + y
    · simp only [if_pos c2]
      have n1 := sc_near (v := h + y - 843314857) ⟨by omega, by omega⟩
      have n2 := sc_near (v := 1686629713 - (h + y) - 843314857) ⟨by omega, by omega⟩
      rw [show 843314857 + (h + y - 843314857) = h + y by omega] at n1
      rw [show 843314857 + (1686629713 - (h + y) - 843314857) = 1686629713 - (h + y) by omega, show 1686629713 - (1686629713 - (h + y)) = h + y by omega] at n2
      exact ⟨adde_of C (by omega), adde_of S (by omega)⟩
    · simp only [if_neg c2, if_neg (show ¬ h + y < -843314857 by omega)]
      exact ⟨adde_id C, adde_id S⟩
theorem AddE.neg {a b : Int} (h : AddE a b) : AddE (-a) (-b) := by unfold AddE at *; omega
/-- Cosine and sine of a sum, the second angle a small one. -/
theorem an_add {h y : Int} (hh : -1720184150 ≤ h ∧ h ≤ 1720184150) (hy : -33554440 ≤ y ∧ y ≤ 33554440) (hk : -1720184150 ≤ h + y ∧ h + y ≤ 1720184150) :
    AddE (anC (h + y)) (anC h * cF y - anS h * sF y) ∧ AddE (anS (h + y)) (anS h * cF y + anC h * sF y) := by
  by_cases c : -843314857 ≤ h ∧ -843314857 ≤ h + y
  · exact an_addP c.1 hh.2 hy c.2 hk.2
  · have k := an_addP (h := -h) (y := -y) (by omega) (by omega) (by omega) (by omega) (by omega)
    rw [show -h + -y = -(h + y) by omega, anC_neg, anC_neg, anS_neg, anS_neg, sF_neg, cF_neg] at k
    refine ⟨?_, ?_⟩
    · have := k.1
      rwa [show anC h * cF y - -anS h * -sF y = anC h * cF y - anS h * sF y by grind] at this
    · have := k.2.neg
      rwa [Int.neg_neg, show -(-anS h * cF y + anC h * -sF y) = anS h * cF y + anC h * sF y by grind] at this
/-- Half a turn further both change their signs. -/
theorem an_half {h : Int} (h1 : 1686629713 ≤ h) (h2 : h ≤ 1720184150) : anC (h - 3373259426) = -anC h ∧ anS (h - 3373259426) = -anS h := by
  unfold anC anS
  rw [if_neg (by omega), if_pos (by omega), if_pos (by omega), if_neg (by omega), if_pos (by omega), if_pos (by omega)]
  rw [show 1686629713 + (h - 3373259426) = -(1686629713 - h) by omega, sF_neg, cF_neg]
  exact ⟨rfl, rfl⟩
theorem an_norm {h : Int} (hh : -1720184150 ≤ h ∧ h ≤ 1720184150) :
    -(1073741824 ^ 25) ≤ anC h * anC h + anS h * anS h - 1073741824 ^ 26 ∧ anC h * anC h + anS h * anS h - 1073741824 ^ 26 ≤ 1073741824 ^ 25 := by
  unfold anC anS
  by_cases h1 : 843314857 < h
  · rw [if_pos h1, if_pos h1]
    have := sc_norm (x := 1686629713 - h) ⟨by omega, by omega⟩
    omega
  · by_cases h2 : h < -843314857
    · rw [if_neg h1, if_neg h1, if_pos h2, if_pos h2]
      have := sc_norm (x := 1686629713 + h) ⟨by omega, by omega⟩
      rw [Int.neg_mul_neg]
      omega
    · rw [if_neg h1, if_neg h1, if_neg h2, if_neg h2]
      exact sc_norm ⟨by omega, by omega⟩
end Go.Proofs.Ytgpnopiinogkmaa
