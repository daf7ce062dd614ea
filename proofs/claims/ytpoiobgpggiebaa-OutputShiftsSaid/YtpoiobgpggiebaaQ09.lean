/- Contracts of the program's functions and plain laws, part 9: they hold for all arguments. -/
import Derived.Test.YtpoiobgpggiebaaQ08
import Derived.Test.YtpoiobgpggiebaaQ05
import Derived.Test.YtpoiobgpggiebaaQ04
import Derived.Test.YtpoiobgpggiebaaQ07
import Derived.Test.YtpoiobgpggiebaaQ03
/- A call's own blocks as a list, where no flag is at hand (BsR); output.put. -/
namespace Go.Proofs.Ytpoiobgpggiebaa
open Go.RowKit
open Go
set_option maxRecDepth 100000
structure BsR (E : List Lx) (top : Nat) (w wr : World) : Prop where
  below : Below w.heap.size w wr
  ex : ∀ e, e ∈ E → Blk wr e.b e.T e.n e.F ∧ w.heap.size ≤ e.b ∧ e.b < top
  lim : w.heap.size ≤ top
  le : top ≤ wr.heap.size
section
variable {E : List Lx} {top : Nat} {w wr w' : World}
theorem bs_nil (w : World) : BsR [] w.heap.size w w := ⟨Below.refl _ _, (fun e he => by cases he), Nat.le_refl _, Nat.le_refl _⟩
theorem BsR.low (s : BsR E top w wr) (u : Below top wr w') (hz : top ≤ w'.heap.size) : BsR E top w w' :=
  ⟨s.below.trans (u.mono s.lim), fun e he => ⟨(u.block _ (s.ex e he).2.2).trans (s.ex e he).1, (s.ex e he).2⟩, s.lim, hz⟩
theorem BsR.down (s : BsR E top w wr) (u : Below wr.heap.size wr w') : BsR E top w w' := s.low (u.mono s.le) (Nat.le_trans s.le u.size)
theorem BsR.drew (s : BsR E top w wr) : BsR E top w wr.drew := s.down (Below.drew (Below.refl _ _))
theorem BsR.alloc (s : BsR E top w wr) (o : Obj) : BsR E top w (wr.alloc o) := s.down ((Below.refl _ _).alloc (Nat.le_refl _) o)
theorem BsR.lay (s : BsR E top w wr) (T n : Nat) (F : Nat → Int) : BsR (⟨wr.heap.size, T, n, F⟩ :: E) (wr.heap.size + 1) w (wr.alloc (.cells (arrv n F) T)) := by
  have k := s.alloc (.cells (arrv n F) T)
  have hl := s.lim
  have hle := s.le
  refine ⟨k.below, fun e he => ?_, by omega, by simp⟩
  rcases List.mem_cons.1 he with rfl | he
  · exact ⟨Blk.new _ _ _ _, by simp only; omega, by simp⟩
  · have := k.ex e he
    exact ⟨this.1, this.2.1, by omega⟩
theorem BsR.e0 {b T n : Nat} {F : Nat → Int} (s : BsR (⟨b, T, n, F⟩ :: E) top w wr) : Blk wr b T n F := (s.ex _ (.head _)).1
theorem BsR.tail {a : Lx} (s : BsR (a :: E) top w wr) : BsR E top w wr := ⟨s.below, fun e he => s.ex e (.tail _ he), s.lim, s.le⟩
theorem BsR.e1 {a : Lx} {b T n : Nat} {F : Nat → Int} (s : BsR (a :: ⟨b, T, n, F⟩ :: E) top w wr) : Blk wr b T n F := s.tail.e0
theorem BsR.e2 {a a2 : Lx} {b T n : Nat} {F : Nat → Int} (s : BsR (a :: a2 :: ⟨b, T, n, F⟩ :: E) top w wr) : Blk wr b T n F := s.tail.e1
theorem BsR.row {b T n : Nat} {F : Nat → Int} (s : BsR (⟨b, T, n, F⟩ :: E) top w wr) (hn : ∀ e, e ∈ E → e.b ≠ b) (G : Nat → Int) : BsR (⟨b, T, n, G⟩ :: E) top w (wr.setRow b (arrv n G)) := by
  have h0 := s.ex _ (.head _)
  refine ⟨s.below.trans (below_row (Below.refl _ _) h0.2.1 _), fun e he => ?_, s.lim, by rw [setRow_size]; exact s.le⟩
  rcases List.mem_cons.1 he with rfl | he
  · exact ⟨h0.1.setRow G, h0.2⟩
  · have := s.ex e (.tail _ he)
    exact ⟨this.1.setRow_other _ (hn e he), this.2⟩
theorem BsR.sub {E' : List Lx} (s : BsR E top w wr) (hs : ∀ e, e ∈ E' → e ∈ E) : BsR E' top w wr := ⟨s.below, fun e he => s.ex e (hs e he), s.lim, s.le⟩
end
theorem oqund : Try.prog.underlying 42 = some (.array 4 2) := by kernel_rfl
theorem oqlen : Try.prog.arrayLen 42 = 4 := by kernel_rfl
theorem ovund : Try.prog.underlying 43 = some (.array 3 2) := by kernel_rfl
theorem ovlen : Try.prog.arrayLen 43 = 3 := by kernel_rfl
theorem run_slice_qo {o : Oper} {ev : Operand → Value} {w : World} (x : Operand) (ho : o.op = .slice 42 x none none none) (g off : Nat) (hx : ev x = .pointer (some ⟨g, off, none⟩)) :
    (execOp ev o).run Try.prog w = .ok (.value (.slice (some ⟨g, off, none⟩) 4 4)) w := by
  have h := run_sliceAt_array_all (P := Try.prog) w 42 ⟨g, off, none⟩ oqund
  unfold execOp
  simp only [ho, hx, Option.map_none]
  rw [Sem.run_bind, h]
  have hs : (sizeOf (Try.prog.elem 42)).run Try.prog w = .ok 1 w := by rw [show Try.prog.elem 42 = 2 from by kernel_rfl]; simp [go_sem]
  rw [hs, oqlen]
  simp [slicedAt, go_sem]
theorem run_slice_vo {o : Oper} {ev : Operand → Value} {w : World} (x : Operand) (ho : o.op = .slice 43 x none none none) (g off : Nat) (hx : ev x = .pointer (some ⟨g, off, none⟩)) :
    (execOp ev o).run Try.prog w = .ok (.value (.slice (some ⟨g, off, none⟩) 3 3)) w := by
  have h := run_sliceAt_array_all (P := Try.prog) w 43 ⟨g, off, none⟩ ovund
  unfold execOp
  simp only [ho, hx, Option.map_none]
  rw [Sem.run_bind, h]
  have hs : (sizeOf (Try.prog.elem 43)).run Try.prog w = .ok 1 w := by rw [show Try.prog.elem 43 = 2 from by kernel_rfl]; simp [go_sem]
  rw [hs, ovlen]
  simp [slicedAt, go_sem]
theorem slc_in {w : World} {b T m : Nat} {F : Nat → Int} (h : Blk w b T m F) (off n : Nat) (hn : off + n ≤ m) : Slc w (some ⟨b, off, none⟩) n (fun i => F (off + i)) := fun i hi => ⟨b, off, rfl, h.cell (by omega)⟩
/-- An estimate with an output's numbers. -/
def poF (S O : Nat → Int) : Nat → Int := withF (withF (withF S 0 4 (fun i => O (1 + i))) 4 3 (fun i => O (5 + i))) 7 3 (fun i => O (8 + i))
theorem poF_get (S O : Nat → Int) (i : Nat) : poF S O i = if i < 10 then O (1 + i) else S i := by
  unfold poF withF
  by_cases h : i < 10
  · rw [if_pos h]
    by_cases h7 : 7 ≤ i
    · rw [if_pos (by omega)]; show O (8 + ((i : Int) - 7).toNat) = _; congr 1; omega
    · rw [if_neg (by omega)]
      by_cases h4 : 4 ≤ i
      · rw [if_pos (by omega)]; show O (5 + ((i : Int) - 4).toNat) = _; congr 1; omega
      · rw [if_neg (by omega), if_pos (by omega)]; congr 1
  · rw [if_neg h, if_neg (by omega), if_neg (by omega), if_neg (by omega)]
set_option maxHeartbeats 8000000 in
theorem put_any (S O : Nat → Int) (w : World) : Calls Try.prog 27 #[.agg (arrv 24 S), .agg (arrv 11 O)] w fun e w' => e = .returned (.agg (arrv 24 (poF S O))) ∧ Below w.heap.size w w' := by
  have HZ0 : poF S O = withF (withF (withF S 0 4 (fun i => O (1 + i))) 4 3 (fun i => O (5 + i))) 7 3 (fun i => O (8 + i)) := rfl
  obtain ⟨S1, h1⟩ : ∃ x, withF S 0 4 (fun i => O (1 + i)) = x := ⟨_, rfl⟩
  rw [h1] at HZ0
  obtain ⟨S2, h2⟩ : ∃ x, withF S1 4 3 (fun i => O (5 + i)) = x := ⟨_, rfl⟩
  rw [h2] at HZ0
  obtain ⟨S3, h3⟩ : ∃ x, withF S2 7 3 (fun i => O (8 + i)) = x := ⟨_, rfl⟩
  rw [h3] at HZ0
  rw [HZ0]
  have N1 := Lib.hid h1
  have N2 := Lib.hid h2
  have N3 := Lib.hid h3
  clear h1 h2 h3 HZ0
  have L0 := Lib.hid (show BsR [⟨w.heap.size, 32, 24, S⟩, ⟨w.heap.size + 1, 49, 11, O⟩, ⟨w.heap.size + 1 + 1, 32, 24, fun _ => 0⟩] (w.heap.size + 1 + 1 + 1) w (((w.alloc (.cells (arrv 24 S) 32)).alloc (.cells (arrv 11 O) 49)).alloc (.cells #[.int .i64 0, .int .i64 0, .int .i64 0, .int .i64 0, .int .i64 0, .int .i64 0, .int .i64 0, .int .i64 0, .int .i64 0, .int .i64 0, .int .i64 0, .int .i64 0, .int .i64 0, .int .i64 0, .int .i64 0, .int .i64 0, .int .i64 0, .int .i64 0, .int .i64 0, .int .i64 0, .int .i64 0, .int .i64 0, .int .i64 0, .int .i64 0] 32)) by
    rw [zvec24]
    have := (((bs_nil w).lay 32 24 S).lay 49 11 O).lay 32 24 (fun _ => 0)
    simp at this
    exact this.sub (by simp))
  go_enter Try.func27, Try.ntmps27
  go_upto_region 1 with fail
  generalize ((w.alloc (.cells (arrv 24 S) 32)).alloc (.cells (arrv 11 O) 49)).alloc (.cells #[.int .i64 0, .int .i64 0, .int .i64 0, .int .i64 0, .int .i64 0, .int .i64 0, .int .i64 0, .int .i64 0, .int .i64 0, .int .i64 0, .int .i64 0, .int .i64 0, .int .i64 0, .int .i64 0, .int .i64 0, .int .i64 0, .int .i64 0, .int .i64 0, .int .i64 0, .int .i64 0, .int .i64 0, .int .i64 0, .int .i64 0, .int .i64 0] 32) = W0 at *
  have HS := Lib.hid L0.out.drew
  clear L0
  (try simp only [Act.put])
  go_cut [] from 5 to 9 (fun wx => Hid (BsR [⟨w.heap.size, 32, 24, S1⟩, ⟨w.heap.size + 1, 49, 11, O⟩, ⟨w.heap.size + 1 + 1, 32, 24, fun _ => 0⟩] (w.heap.size + 1 + 1 + 1) w wx))
  case first =>
    refine wp_region_M (fun w' => Blk w' w.heap.size 32 24 S) 4 (by kernel_rfl) ?_ (fun hHeld => ?_)
    · exact HS.out.e0
    refine wpAnyM_take 0 (v := ?_) rfl (by kernel_rfl) (fun _ _ _ h => h) (Or.inl ⟨by rfl, ?_⟩) (by assumption) ?_
    rotate_left
    · (intro wx hSw; refine Eq.trans (run_load_row 32 (.tmp 2) (by rfl) (w.heap.size) (by rfl) _ _ _ _ (hSw) Try.underlying32 rfl (ist.trans (by rw [arrv_size]))) ?_; with_reducible rfl)
    (try simp only [Act.put, nA, nB, nC])
    refine wpAnyM_take 1 (v := ?_) rfl (by kernel_rfl) (fun _ _ _ h => h) (Or.inl ⟨by rfl, ?_⟩) (by assumption) ?_
    rotate_left
    · (intro wx hSw; (try dsimp only at hSw); go_simp; (try with_reducible rfl))
    (try simp only [Act.put, nA, nB, nC])
    refine wpAnyM_take 2 (v := ?_) rfl (by kernel_rfl) (fun _ _ _ h => h) (Or.inl ⟨by rfl, ?_⟩) (by assumption) ?_
    rotate_left
    · (intro wx hSw; refine Eq.trans (run_slice_qo (.tmp 6) (by rfl) (w.heap.size + 1) 1 (by rfl)) ?_; with_reducible rfl)
    (try simp only [Act.put, nA, nB, nC])
    refine wpAnyM_oneS 3 rfl (by kernel_rfl) (fun K hK => ?_)
    go_simp
    (refine (swith_any S 0 _ 4 4 (fun i => O (1 + i)) _ (by decide) (by decide) (by decide) (slc_in HS.out.e1 1 4 (by decide))).mono ?_); (rw [N1.out]); rintro e w3 ⟨rfl, hb⟩; have HS2 := Lib.hid (HS.out.down hb); clear HS hb; have HS := HS2; clear HS2
    (try dsimp only)
    (try simp only [Act.put, nA, nB, nC])
    clear hHeld
    refine hK.out _ _ ?_ (fun hHeld => ?_)
    · exact HS.out.e0
    clear hK K
    (try simp only [Act.put, nA, nB, nC])
    refine wpAnyM_doneL 4 rfl (by kernel_rfl) (by rfl) (by kernel_rfl) (run_store_row 32 (.tmp 2) (.tmp 8) rfl _ rfl rfl HS.out.e0 (ist.trans rfl)) ?_
    (try simp only [Act.put, nA, nB, nC])
    refine wpAnyM_done (by kernel_rfl) ?_ _
    (have HE := Lib.hid (HS.out.row (by simp; omega) S1); go_wp2_with fail; go_meet; exact HE)
  case rest =>
  clear HS
  go_upto_region 2 with fail
  have HS := Lib.hid hcut.out.drew
  clear hcut
  (try simp only [Act.put])
  go_cut [] from 9 to 13 (fun wx => Hid (BsR [⟨w.heap.size, 32, 24, S2⟩, ⟨w.heap.size + 1, 49, 11, O⟩, ⟨w.heap.size + 1 + 1, 32, 24, fun _ => 0⟩] (w.heap.size + 1 + 1 + 1) w wx))
  case first =>
    refine wp_region_M (fun w' => Blk w' w.heap.size 32 24 S1) 4 (by kernel_rfl) ?_ (fun hHeld => ?_)
    · exact HS.out.e0
    refine wpAnyM_take 0 (v := ?_) rfl (by kernel_rfl) (fun _ _ _ h => h) (Or.inl ⟨by rfl, ?_⟩) (by assumption) ?_
    rotate_left
    · (intro wx hSw; refine Eq.trans (run_load_row 32 (.tmp 2) (by rfl) (w.heap.size) (by rfl) _ _ _ _ (hSw) Try.underlying32 rfl (ist.trans (by rw [arrv_size]))) ?_; with_reducible rfl)
    (try simp only [Act.put, nA, nB, nC])
    refine wpAnyM_take 1 (v := ?_) rfl (by kernel_rfl) (fun _ _ _ h => h) (Or.inl ⟨by rfl, ?_⟩) (by assumption) ?_
    rotate_left
    · (intro wx hSw; (try dsimp only at hSw); go_simp; (try with_reducible rfl))
    (try simp only [Act.put, nA, nB, nC])
    refine wpAnyM_take 2 (v := ?_) rfl (by kernel_rfl) (fun _ _ _ h => h) (Or.inl ⟨by rfl, ?_⟩) (by assumption) ?_
    rotate_left
    · (intro wx hSw; refine Eq.trans (run_slice_vo (.tmp 10) (by rfl) (w.heap.size + 1) 5 (by rfl)) ?_; with_reducible rfl)
    (try simp only [Act.put, nA, nB, nC])
    refine wpAnyM_oneS 3 rfl (by kernel_rfl) (fun K hK => ?_)
    go_simp
    (refine (swith_any S1 4 _ 3 3 (fun i => O (5 + i)) _ (by decide) (by decide) (by decide) (slc_in HS.out.e1 5 3 (by decide))).mono ?_); (rw [N2.out]); rintro e w3 ⟨rfl, hb⟩; have HS2 := Lib.hid (HS.out.down hb); clear HS hb; have HS := HS2; clear HS2
    (try dsimp only)
    (try simp only [Act.put, nA, nB, nC])
    clear hHeld
    refine hK.out _ _ ?_ (fun hHeld => ?_)
    · exact HS.out.e0
    clear hK K
    (try simp only [Act.put, nA, nB, nC])
    refine wpAnyM_doneL 4 rfl (by kernel_rfl) (by rfl) (by kernel_rfl) (run_store_row 32 (.tmp 2) (.tmp 12) rfl _ rfl rfl HS.out.e0 (ist.trans rfl)) ?_
    (try simp only [Act.put, nA, nB, nC])
    refine wpAnyM_done (by kernel_rfl) ?_ _
    (have HE := Lib.hid (HS.out.row (by simp; omega) S2); go_wp2_with fail; go_meet; exact HE)
  case rest =>
  clear HS
  go_upto_region 3 with fail
  have HS := Lib.hid hcut.out.drew
  clear hcut
  (try simp only [Act.put])
  refine wp_region_M (fun w' => Blk w' w.heap.size 32 24 S2) 4 (by kernel_rfl) ?_ (fun hHeld => ?_)
  · exact HS.out.e0
  refine wpAnyM_take 0 (v := ?_) rfl (by kernel_rfl) (fun _ _ _ h => h) (Or.inl ⟨by rfl, ?_⟩) (by assumption) ?_
  rotate_left
  · (intro wx hSw; refine Eq.trans (run_load_row 32 (.tmp 2) (by rfl) (w.heap.size) (by rfl) _ _ _ _ (hSw) Try.underlying32 rfl (ist.trans (by rw [arrv_size]))) ?_; with_reducible rfl)
  (try simp only [Act.put, nA, nB, nC])
  refine wpAnyM_take 1 (v := ?_) rfl (by kernel_rfl) (fun _ _ _ h => h) (Or.inl ⟨by rfl, ?_⟩) (by assumption) ?_
  rotate_left
  · (intro wx hSw; (try dsimp only at hSw); go_simp; (try with_reducible rfl))
  (try simp only [Act.put, nA, nB, nC])
  refine wpAnyM_take 2 (v := ?_) rfl (by kernel_rfl) (fun _ _ _ h => h) (Or.inl ⟨by rfl, ?_⟩) (by assumption) ?_
  rotate_left
  · (intro wx hSw; refine Eq.trans (run_slice_vo (.tmp 14) (by rfl) (w.heap.size + 1) 8 (by rfl)) ?_; with_reducible rfl)
  (try simp only [Act.put, nA, nB, nC])
  refine wpAnyM_oneS 3 rfl (by kernel_rfl) (fun K hK => ?_)
  go_simp
  (refine (swith_any S2 7 _ 3 3 (fun i => O (8 + i)) _ (by decide) (by decide) (by decide) (slc_in HS.out.e1 8 3 (by decide))).mono ?_); (rw [N3.out]); rintro e w3 ⟨rfl, hb⟩; have HS2 := Lib.hid (HS.out.down hb); clear HS hb; have HS := HS2; clear HS2
  (try dsimp only)
  (try simp only [Act.put, nA, nB, nC])
  clear hHeld
  refine hK.out _ _ ?_ (fun hHeld => ?_)
  · exact HS.out.e0
  clear hK K
  (try simp only [Act.put, nA, nB, nC])
  refine wpAnyM_doneL 4 rfl (by kernel_rfl) (by rfl) (by kernel_rfl) (run_store_row 32 (.tmp 4) (.tmp 16) rfl _ rfl rfl HS.out.e2 (ist.trans rfl)) ?_
  (try simp only [Act.put, nA, nB, nC])
  refine wpAnyM_done (by kernel_rfl) ?_ _
  (have HE := Lib.hid ((HS.out.sub (E' := [⟨w.heap.size + 1 + 1, 32, 24, fun _ => 0⟩]) (by simp)).row (by simp) S3); clear HS; go_wp2_with fail; refine bodyPost_ret (results_cell_row Try.results27 _ _ (w.heap.size + 1 + 1) 32 (arrv 24 _) (0, 0) _ rfl HE.out.e0 Try.underlying32 rfl (ist.trans (by rw [arrv_size]))) rfl ⟨rfl, HE.out.below⟩)
end Go.Proofs.Ytpoiobgpggiebaa
/- output.New, Now, All, Start. -/
namespace Go.Proofs.Ytpoiobgpggiebaa
open Go.RowKit
open Go
set_option maxRecDepth 100000
set_option maxHeartbeats 4000000 in
theorem newp_bad (z g : Int) (w : World) (hb : z < 1 ∨ 64 < z ∨ g < 1 ∨ 1073741824 < g) :
    Calls Try.prog 10 #[.int .i64 z, .int .i64 g] w fun e w' => e = .returned (.tuple #[.pointer none, .int .i64 1]) ∧ Below w.heap.size w w' := by
  have B0 := Lib.hid (Below.refl w.heap.size w)
  by_cases h1 : z < 1
  · have d1 : decide (z < 1) = true := by simpa using h1
    clear h1 hb
    go_enter Try.func10, Try.ntmps10
    go_wp2_with fail
    go_ret2
    exact ⟨rfl, by (repeat (first | with_reducible exact Below.refl _ _ | with_reducible apply Below.drew | (with_reducible refine below_drewN ?_ _) | (with_reducible refine Below.alloc ?_ (by (try simp) <;> omega) _) | (with_reducible refine Below.setCell ?_ (by (try simp) <;> omega) _)))⟩
  have d1 : decide (z < 1) = false := by simpa using h1
  by_cases h2 : 64 < z
  · have d2 : decide (64 < z) = true := by simpa using h2
    clear h1 h2 hb
    go_enter Try.func10, Try.ntmps10
    go_wp2_with fail
    go_ret2
    exact ⟨rfl, by (repeat (first | with_reducible exact Below.refl _ _ | with_reducible apply Below.drew | (with_reducible refine below_drewN ?_ _) | (with_reducible refine Below.alloc ?_ (by (try simp) <;> omega) _) | (with_reducible refine Below.setCell ?_ (by (try simp) <;> omega) _)))⟩
  have d2 : decide (64 < z) = false := by simpa using h2
  by_cases h3 : g < 1
  · have d3 : decide (g < 1) = true := by simpa using h3
    clear h1 h2 h3 hb
    go_enter Try.func10, Try.ntmps10
    go_wp2_with fail
    go_ret2
    exact ⟨rfl, by (repeat (first | with_reducible exact Below.refl _ _ | with_reducible apply Below.drew | (with_reducible refine below_drewN ?_ _) | (with_reducible refine Below.alloc ?_ (by (try simp) <;> omega) _) | (with_reducible refine Below.setCell ?_ (by (try simp) <;> omega) _)))⟩
  have d3 : decide (g < 1) = false := by simpa using h3
  have h4 : 1073741824 < g := by omega
  have d4 : decide (1073741824 < g) = true := by simpa using h4
  clear h1 h2 h3 h4 hb
  go_enter Try.func10, Try.ntmps10
  go_wp2_with fail
  go_ret2
  exact ⟨rfl, by (repeat (first | with_reducible exact Below.refl _ _ | with_reducible apply Below.drew | (with_reducible refine below_drewN ?_ _) | (with_reducible refine Below.alloc ?_ (by (try simp) <;> omega) _) | (with_reducible refine Below.setCell ?_ (by (try simp) <;> omega) _)))⟩
set_option maxHeartbeats 4000000 in
theorem newp_good (z g : Int) (w : World) (h1 : 1 ≤ z) (h2 : z ≤ 64) (h3 : 1 ≤ g) (h4 : g ≤ 1073741824) :
    Calls Try.prog 10 #[.int .i64 z, .int .i64 g] w fun e w' => e = .returned (.tuple #[.pointer (some ⟨w.heap.size, 0, none⟩), .int .i64 0]) ∧ Below w.heap.size w w' ∧ PdR w' w.heap.size z g (.slice none 0 0) 0 (fun _ _ => 0) := by
  have d1 : decide (z < 1) = false := by simp; omega
  have d2 : decide (64 < z) = false := by simp; omega
  have d3 : decide (g < 1) = false := by simp; omega
  have d4 : decide (1073741824 < g) = false := by simp; omega
  have P0 := Lib.hid (show PdR (w.alloc (.cells #[.int .i64 z, .int .i64 g, .slice none 0 0] 66)) w.heap.size z g (.slice none 0 0) 0 (fun _ _ => 0) from ⟨heap_alloc_new w _, OwnO.nil _ _, by simp [Value.ownBlock]⟩)
  clear h1 h2 h3 h4
  go_enter Try.func10, Try.ntmps10
  go_wp2_with fail
  go_ret2
  exact ⟨rfl, by (repeat (first | with_reducible exact Below.refl _ _ | with_reducible apply Below.drew | (with_reducible refine below_drewN ?_ _) | (with_reducible refine Below.alloc ?_ (by (try simp) <;> omega) _) | (with_reducible refine Below.setCell ?_ (by (try simp) <;> omega) _))), P0.out⟩
/-- The results of a function that gives a row and a value. -/
theorem results_cell_tmp {P : Program} {fn : Func} {p u : Tmp} {ty : TypeId} (h : fn.results = #[.cell p ty, .tmp u]) (tmps : Array Value) (w : World) (g : Nat) (t : TypeId) (cs : Array Value) (fr : Nat × Nat) (d : TypeDesc)
    (hp : tmps.getD p undef = .pointer (some ⟨g, 0, none⟩)) (hg : w.heap[g]? = some (.cells cs t fr))
    (hu : P.underlying ty = some d) (hd : (match d with | .struct _ | .array _ _ => true | _ => false) = true) (hi : (P.info? ty).map (·.size) = some cs.size)
    (v : Value) (hv : tmps.getD u undef = v) :
    (results fn tmps).run P w = .ok (.tuple #[.agg cs, v]) w := by
  have e1 : tmps[p]?.getD undef = .pointer (some ⟨g, 0, none⟩) := by simpa using hp
  have e3 : tmps[u]?.getD undef = v := by simpa using hv
  simp [results, h, e1, e3, asAddr, run_loadVar_row w g t ty cs fr d hg hu hd hi]
theorem ou_new (w : World) : BsR [⟨w.heap.size, 49, 11, fun _ => 0⟩] (w.heap.size + 1) w (w.alloc (.cells #[.int .i64 0, .int .i64 0, .int .i64 0, .int .i64 0, .int .i64 0, .int .i64 0, .int .i64 0, .int .i64 0, .int .i64 0, .int .i64 0, .int .i64 0] 49)) := by
  rw [zou]; exact (bs_nil w).lay 49 11 (fun _ => 0)
set_option maxHeartbeats 4000000 in
/-- The last output, if there is one. -/
theorem now_some (pb : Nat) (z g : Int) (m : Nat) (L : Nat → Nat → Int) (v : Value) (w : World) (hp : PdR w pb z g v (m + 1) L) (hm : m < 1000) :
    Calls Try.prog 23 #[.pointer (some ⟨pb, 0, none⟩)] w fun e w' => e = .returned (.tuple #[.agg (arrv 11 (L m)), .bool true]) ∧ Below w.heap.size w w' := by
  have L0 := Lib.hid (ou_new w)
  rcases hp.own.form with ⟨h0, _⟩ | ⟨gb, cp, rfl, hgl, hcp, hL⟩
  · omega
  have P0 := Lib.hid (hp.kept (X := fun _ => False) (Chg.below ((Below.refl _ _).alloc (Nat.le_refl _) (.cells #[.int .i64 0, .int .i64 0, .int .i64 0, .int .i64 0, .int .i64 0, .int .i64 0, .int .i64 0, .int .i64 0, .int .i64 0, .int .i64 0, .int .i64 0] 49))) (fun h => h) (fun _ _ h => h))
  have C0 := Lib.hid (fun j (hj : j < 11) => (((Below.refl w.heap.size w).alloc (Nat.le_refl _) (.cells #[.int .i64 0, .int .i64 0, .int .i64 0, .int .i64 0, .int .i64 0, .int .i64 0, .int .i64 0, .int .i64 0, .int .i64 0, .int .i64 0, .int .i64 0] 49)).cell (p := ⟨gb, m * 11 + j, none⟩) hgl).trans (hL m (by omega) j hj))
  have hlt := hp.lt
  clear hp hL hcp
  go_enter Try.func23, Try.ntmps23
  go_upto_region 1 with fail
  generalize w.alloc (.cells #[.int .i64 0, .int .i64 0, .int .i64 0, .int .i64 0, .int .i64 0, .int .i64 0, .int .i64 0, .int .i64 0, .int .i64 0, .int .i64 0, .int .i64 0] 49) = W0 at *
  have c2 := P0.out.c2
  have k0 : (0 : Int) ≤ (m : Int) := Int.natCast_nonneg _
  have k1 : (m : Int) < 1000 := by omega
  have kw : IntKind.i64.wrap (m : Int) = (m : Int) := IntWalk.i64_in _ (by omega)
  have k2 : (m : Int) < (m : Int) + 1 := by omega
  go_upto_region 3 with fail
  have HS := Lib.hid L0.out.drew
  clear L0
  refine wp_region_M (fun w' => w'.cell? ⟨pb, 2, none⟩ = some (.slice (some ⟨gb, 0, none⟩) (m + 1) cp) ∧ ∀ j, j < 11 → w'.cell? ⟨gb, m * 11 + j, none⟩ = some (.int .i64 (L m j))) 13 (by kernel_rfl) ?_ (fun hHeld => ?_)
  · first | exact ⟨c2, C0.out⟩ | exact ⟨(ls_row_other _ (by simp; omega)).1.trans c2, fun j hj => (ls_row_other _ (by simp; omega)).1.trans (C0.out j hj)⟩
  refine wpAnyM_take 0 (v := ?_) rfl (by kernel_rfl) (fun _ _ _ h => h) (Or.inl ⟨by rfl, ?_⟩) (by assumption) ?_
  rotate_left
  · (intro wx hSw; (try dsimp only at hSw); go_simp; (try with_reducible rfl))
  (try simp only [Act.put, nA, nB, nC])
  refine wpAnyM_take 1 (v := ?_) rfl (by kernel_rfl) (fun _ _ _ h => h) (Or.inl ⟨by rfl, ?_⟩) (by assumption) ?_
  rotate_left
  · (intro wx hSw; (try dsimp only at hSw); go_simp; (try with_reducible rfl))
  (try simp only [Act.put, nA, nB, nC])
  refine wpAnyM_take 2 (v := ?_) rfl (by kernel_rfl) (fun _ _ _ h => h) (Or.inl ⟨by rfl, ?_⟩) (by assumption) ?_
  rotate_left
  · (intro wx hSw; (try dsimp only at hSw); go_simp; (try with_reducible rfl))
  (try simp only [Act.put, nA, nB, nC])
  refine wpAnyM_take 3 (v := ?_) rfl (by kernel_rfl) (fun _ _ _ h => h) (Or.inl ⟨by rfl, ?_⟩) (by assumption) ?_
  rotate_left
  · (intro wx hSw; have c3 := hSw.1; go_simp; with_reducible rfl)
  (try simp only [Act.put, nA, nB, nC])
  refine wpAnyM_take 4 (v := ?_) rfl (by kernel_rfl) (fun _ _ _ h => h) (Or.inl ⟨by rfl, ?_⟩) (by assumption) ?_
  rotate_left
  · (intro wx hSw; (try dsimp only at hSw); go_simp; (try with_reducible rfl))
  (try simp only [Act.put, nA, nB, nC])
  refine wpAnyM_take 5 (v := ?_) rfl (by kernel_rfl) (fun _ _ _ h => h) (Or.inl ⟨by rfl, ?_⟩) (by assumption) ?_
  rotate_left
  · (intro wx hSw; (try dsimp only at hSw); go_simp; (try with_reducible rfl))
  (try simp only [Act.put, nA, nB, nC])
  refine wpAnyM_take 6 (v := ?_) rfl (by kernel_rfl) (fun _ _ _ h => h) (Or.inl ⟨by rfl, ?_⟩) (by assumption) ?_
  rotate_left
  · (intro wx hSw; (try dsimp only at hSw); go_simp; (try with_reducible rfl))
  (try simp only [Act.put, nA, nB, nC])
  refine wpAnyM_take 7 (v := ?_) rfl (by kernel_rfl) (fun _ _ _ h => h) (Or.inl ⟨by rfl, ?_⟩) (by assumption) ?_
  rotate_left
  · (intro wx hSw; have c3 := hSw.1; go_simp; with_reducible rfl)
  (try simp only [Act.put, nA, nB, nC])
  refine wpAnyM_take 8 (v := ?_) rfl (by kernel_rfl) (fun _ _ _ h => h) (Or.inl ⟨by rfl, ?_⟩) (by assumption) ?_
  rotate_left
  · (intro wx hSw; (try dsimp only at hSw); go_simp; (try with_reducible rfl))
  (try simp only [Act.put, nA, nB, nC])
  refine wpAnyM_take 9 (v := ?_) rfl (by kernel_rfl) (fun _ _ _ h => h) (Or.inl ⟨by rfl, ?_⟩) (by assumption) ?_
  rotate_left
  · (intro wx hSw; (try dsimp only at hSw); go_simp; (try with_reducible rfl))
  (try simp only [Act.put, nA, nB, nC])
  refine wpAnyM_take 10 (v := ?_) rfl (by kernel_rfl) (fun _ _ _ h => h) (Or.inl ⟨by rfl, ?_⟩) (by assumption) ?_
  rotate_left
  · (intro wx hSw; (try dsimp only at hSw); go_simp; (try with_reducible rfl))
  (try simp only [Act.put, nA, nB, nC])
  refine wpAnyM_take 11 (v := ?_) rfl (by kernel_rfl) (fun _ _ _ h => h) (Or.inl ⟨by rfl, ?_⟩) (by assumption) ?_
  rotate_left
  · (intro wx hSw; refine Eq.trans (run_load_out (.tmp 21) (by rfl) gb (m * 11) (by rfl) (L m) hSw.2) ?_; with_reducible rfl)
  (try simp only [Act.put, nA, nB, nC])
  clear hHeld
  refine wpAnyM_doneN 12 rfl (by kernel_rfl) (by rfl) (run_store_row 49 (.tmp 2) (.tmp 22) rfl _ rfl rfl HS.out.e0 (iou.trans rfl)) ?_ (fun hHeld => ?_)
  · first | exact ⟨c2, C0.out⟩ | exact ⟨(ls_row_other _ (by simp; omega)).1.trans c2, fun j hj => (ls_row_other _ (by simp; omega)).1.trans (C0.out j hj)⟩
  (try simp only [Act.put, nA, nB, nC])
  refine wpAnyM_one 13 rfl (by kernel_rfl) (fun K hK => ?_)
  go_simp
  refine hK.out _ _ (.inl (by kernel_rfl)) (fun _ => ?_)
  clear hK K
  (try simp only [Act.put, nA, nB, nC])
  refine wpAnyM_done (by kernel_rfl) ?_ _
  (have HE := Lib.hid (HS.out.row (by simp) (L m)); go_wp2_with fail; refine bodyPost_ret (results_cell_tmp Try.results23 _ _ w.heap.size 49 (arrv 11 _) (0, 0) _ rfl HE.out.e0 Try.underlying49 rfl (iou.trans (by rw [arrv_size])) _ rfl) rfl ⟨rfl, HE.out.below⟩)
end Go.Proofs.Ytpoiobgpggiebaa
/- output: Now of none, All, Start. -/
namespace Go.Proofs.Ytpoiobgpggiebaa
open Go.RowKit
open Go
set_option maxRecDepth 100000
theorem run_build_ou0 {o : Oper} {ev : Operand → Value} {w : World} (ho : o.op = .build 49 #[]) : (execOp ev o).run Try.prog w = .ok (.value (.agg (arrv 11 (fun _ => 0)))) w := by
  unfold execOp
  simp only [ho, List.map_toArray, List.map_nil]
  kernel_rfl
set_option maxHeartbeats 4000000 in
theorem now_none (pb : Nat) (z g : Int) (L : Nat → Nat → Int) (q : Option Addr) (cp : Nat) (w : World) (hp : PdR w pb z g (.slice q 0 cp) 0 L) :
    Calls Try.prog 23 #[.pointer (some ⟨pb, 0, none⟩)] w fun e w' => e = .returned (.tuple #[.agg (arrv 11 (fun _ => 0)), .bool false]) ∧ Below w.heap.size w w' := by
  have L0 := Lib.hid (ou_new w)
  have P0 := Lib.hid (hp.kept (X := fun _ => False) (Chg.below ((Below.refl _ _).alloc (Nat.le_refl _) (.cells #[.int .i64 0, .int .i64 0, .int .i64 0, .int .i64 0, .int .i64 0, .int .i64 0, .int .i64 0, .int .i64 0, .int .i64 0, .int .i64 0, .int .i64 0] 49))) (fun h => h) (fun _ _ h => h))
  clear hp
  go_enter Try.func23, Try.ntmps23
  go_upto_region 1 with fail
  generalize w.alloc (.cells #[.int .i64 0, .int .i64 0, .int .i64 0, .int .i64 0, .int .i64 0, .int .i64 0, .int .i64 0, .int .i64 0, .int .i64 0, .int .i64 0, .int .i64 0] 49) = W0 at *
  have c2 := P0.out.c2
  go_upto_region 2 with fail
  refine wp_region_lit ?_
  refine wpList_val (v := ?_) rfl ?_ ?_
  rotate_left
  · (refine Eq.trans (run_build_ou0 (by rfl)) ?_; with_reducible rfl)
  (try simp only [Act.put, nA, nB, nC])
  refine wpList_done (w' := ?_) rfl ?_ ?_
  rotate_left
  · (refine Eq.trans (run_store_row 49 (.tmp 2) (.tmp 10) (by rfl) (w.heap.size) (by rfl) (by rfl) (L0.out.e0) (iou.trans rfl)) ?_; with_reducible rfl)
  (try simp only [Act.put, nA, nB, nC])
  refine wpList_val (v := ?_) rfl ?_ ?_
  rotate_left
  · (go_simp; (try (first | with_reducible rfl | (constructor <;> with_reducible rfl))))
  (try simp only [Act.put, nA, nB, nC])
  refine wpList_nil ?_
  have HE := Lib.hid (L0.out.row (by simp) (fun _ => 0))
  generalize W0.setRow w.heap.size (arrv 11 (fun _ => 0)) = W1 at *
  go_wp2_with fail
  refine bodyPost_ret (results_cell_tmp Try.results23 _ _ w.heap.size 49 (arrv 11 _) (0, 0) _ rfl HE.out.e0 Try.underlying49 rfl (iou.trans (by rw [arrv_size])) _ rfl) rfl ⟨rfl, HE.out.below⟩
theorem wp_bslo0 {o : Oper} {a : Act} {w : World} {K : Act → World → Prop} {Q : Exit → Act → World → Prop} (ho : o.op = .buildSlice 38 0 #[])
    (h : K (a.put o.dst (.slice (some ⟨w.heap.size, 0, none⟩) 0 0)) (w.alloc (.cells #[] 49))) : o.wp Try.prog a w K Q := by
  have hr : (Instr.buildSlice 38 0 #[]).run Try.prog w = .ok (.slice (some ⟨w.heap.size, 0, none⟩) 0 0) (w.alloc (.cells #[] 49)) := by
    have hs : (sizeOf 49).run Try.prog w = .ok 11 w := by kernel_rfl
    unfold Instr.buildSlice
    simp [Sem.run_bind, run_underlying Try.underlying38, hs, Instr.fill, newRow, newObj, go_sem]
    rfl
  unfold Oper.wp execOp
  simp only [ho, Sem.run_bind, List.map_toArray, List.map_nil, hr, Result.andThen_ok]
  exact h
theorem own_empty (w : World) (L : Nat → Nat → Int) : OwnO (w.alloc (.cells #[] 49)) (.slice (some ⟨w.heap.size, 0, none⟩) 0 0) 0 L :=
  ⟨by simp [outc], .inr ⟨w.heap.size, 0, #[], rfl, Nat.zero_le _, heap_alloc_new w _, Nat.le_refl _, by unfold maxLen; omega, rfl, by simp [outc]⟩⟩
/-- append of a whole slice (from off on) to an empty one. -/
theorem run_appAllO {w : World} (b : Nat) (ty : TypeId) (q : Option Addr) (n cp : Nat) (M : Nat → Nat → Int) (hb : OwnO w (.slice (some ⟨b, 0, none⟩) 0 0) 0 M) (hL : 0 < n → ∃ gb off, q = some ⟨gb, off, none⟩ ∧ ∀ i, i < n → ∀ j, j < 11 → w.cell? ⟨gb, off + (i * 11 + j), none⟩ = some (.int .i64 (M i j))) (hn : n ≤ 1000) (hbl : b < w.heap.size) :
    ∃ g cap w', (Builtin.append_ #[38, 38] ty #[.slice (some ⟨b, 0, none⟩) 0 0, .slice q n cp]).run Try.prog w = .ok (.slice (some ⟨g, 0, none⟩) n cap) w' ∧
      OwnO w' (.slice (some ⟨g, 0, none⟩) n cap) n M ∧ w.grownBy w' (some b) ∧ (g = b ∨ g = w.heap.size) := by
  rcases Nat.eq_zero_or_pos n with h0 | h0
  · subst h0
    obtain ⟨i, hi, hz, hs, hby⟩ := info_Out
    have ht := Try.underlying38
    refine ⟨b, 0, w, ?_, hb, ⟨rfl, rfl, rfl, Nat.le_refl _, fun _ _ _ => rfl⟩, .inl rfl⟩
    refine run_append_nothing w _ _ ty _ i ht hi (some ⟨b, 0, none⟩) 0 0 (Nat.le_refl _) _ ⟨.inl ⟨_, ht⟩, fun w' => ?_, ?_, ?_, by simp, fun u hu => by cases hu⟩
    · simp [Builtin.lenOf]
    · cases q <;> simp [Builtin.firstCells, loadCells, loadCellsFrom]
    · cases q <;> simp [Builtin.firstCells, loadCells, loadCellsFrom]
  · obtain ⟨gb, off, rfl, hc⟩ := hL h0
    obtain ⟨g, cap, w', h1, h2, h3, h4, h5⟩ := run_appOut hb gb off cp n M hc h0 (by omega) ty _ rfl
    rw [Nat.zero_add] at h1 h2
    refine ⟨g, cap, w', h1, h2.congr fun i hi j hj => by rw [if_neg (by omega)]; rfl, h3, ?_⟩
    rcases h4 with h4 | h4
    · left; simpa [Value.ownBlock] using h4.symm
    · exact .inr h4
theorem wp_appAllO {o : Oper} {a : Act} {w : World} {K : Act → World → Prop} {Q : Exit → Act → World → Prop} (s x : Operand)
    (ho : o.op = .call { callee := .builtin .append, args := #[s, x], argTypes := #[38, 38] })
    (b : Nat) (q : Option Addr) (n cp : Nat) (M : Nat → Nat → Int) (hs : a.eval s = .slice (some ⟨b, 0, none⟩) 0 0) (hx : a.eval x = .slice q n cp) (hb : OwnO w (.slice (some ⟨b, 0, none⟩) 0 0) 0 M) (hL : 0 < n → ∃ gb off, q = some ⟨gb, off, none⟩ ∧ ∀ i, i < n → ∀ j, j < 11 → w.cell? ⟨gb, off + (i * 11 + j), none⟩ = some (.int .i64 (M i j))) (hn : n ≤ 1000) (hbl : b < w.heap.size)
    (h : ∀ g cap w', OwnO w' (.slice (some ⟨g, 0, none⟩) n cap) n M → w.grownBy w' (some b) → (g = b ∨ g = w.heap.size) → K (a.put o.dst (.slice (some ⟨g, 0, none⟩) n cap)) w') : o.wp Try.prog a w K Q := by
  obtain ⟨g, cap, w', hr, h1, h2, h3⟩ := run_appAllO b o.type q n cp M hb hL hn hbl
  unfold Oper.wp execOp
  simp only [ho, resolve, invoke, builtin, Sem.run_bind, Sem.run_pure, Result.andThen_ok, List.map_toArray, List.map_cons, List.map_nil, hs, hx, hr]
  exact h g cap w' h1 h2 h3
set_option maxHeartbeats 4000000 in
theorem all_out (pb : Nat) (z g : Int) (n : Nat) (L : Nat → Nat → Int) (v : Value) (w : World) (hp : PdR w pb z g v n L) (hn : n ≤ 1000) :
    Calls Try.prog 14 #[.pointer (some ⟨pb, 0, none⟩)] w fun e w' => ∃ v', e = .returned v' ∧ Below w.heap.size w w' ∧ OwnO w' v' n L ∧ ∃ gb, v'.ownBlock = some gb ∧ w.heap.size ≤ gb := by
  obtain ⟨q, cp, rfl, hq⟩ : ∃ q cp, v = .slice q n cp ∧ (0 < n → ∃ gb off, q = some ⟨gb, off, none⟩ ∧ gb < w.heap.size ∧ ∀ i, i < n → ∀ j, j < 11 → w.cell? ⟨gb, off + (i * 11 + j), none⟩ = some (.int .i64 (L i j))) := by
    rcases hp.own.form with ⟨rfl, h⟩ | ⟨gb, cp, h, hl, _, hL⟩
    · exact ⟨none, 0, h, fun h => by omega⟩
    · exact ⟨_, cp, h, fun _ => ⟨gb, 0, rfl, hl, fun i hi j hj => by rw [Nat.zero_add]; exact hL i hi j hj⟩⟩
  have c2 := hp.c2
  have c3 := (((Below.refl w.heap.size w).alloc (Nat.le_refl _) (.cells #[] 49)).cell (p := ⟨pb, 2, none⟩) hp.lt).trans c2
  have B0 := Lib.hid ((Below.refl w.heap.size w).alloc (Nat.le_refl _) (.cells #[] 49))
  have E0 := Lib.hid (own_empty w L)
  have Q0 := Lib.hid (fun h0 => by
    obtain ⟨gb, off, h1, h2, h3⟩ := hq h0
    exact (⟨gb, off, h1, fun i hi j hj => (B0.out.cell (p := ⟨gb, off + (i * 11 + j), none⟩) h2).trans (h3 i hi j hj)⟩ : ∃ gb off, q = some ⟨gb, off, none⟩ ∧ ∀ i, i < n → ∀ j, j < 11 → (w.alloc (.cells #[] 49)).cell? ⟨gb, off + (i * 11 + j), none⟩ = some (.int .i64 (L i j))))
  have hlt := hp.lt
  clear hp hq
  go_enter Try.func14, Try.ntmps14
  go_upto_region 1 with fail
  refine wp_region_lit ?_
  refine wpList_plain rfl (fun Kn hKn => wp_bslo0 (by rfl) (hKn _ _ ?_)); clear hKn Kn
  refine wpList_val (v := ?_) rfl ?_ ?_
  rotate_left
  · (go_simp; (try (first | with_reducible rfl | (constructor <;> with_reducible rfl))))
  (try simp only [Act.put, nA, nB, nC])
  refine wpList_val (v := ?_) rfl ?_ ?_
  rotate_left
  · (go_simp; (try (first | with_reducible rfl | (constructor <;> with_reducible rfl))))
  (try simp only [Act.put, nA, nB, nC])
  refine wpList_val (v := ?_) rfl ?_ ?_
  rotate_left
  · (go_simp; (try (first | with_reducible rfl | (constructor <;> with_reducible rfl))))
  (try simp only [Act.put, nA, nB, nC])
  refine wpList_val (v := ?_) rfl ?_ ?_
  rotate_left
  · (go_simp; (try (first | with_reducible rfl | (constructor <;> with_reducible rfl))))
  (try simp only [Act.put, nA, nB, nC])
  refine wpList_plain rfl (fun Kn hKn => wp_appAllO (.tmp 3) (.tmp 7) (by rfl) w.heap.size q n cp L (by rfl) (by rfl) E0.out Q0.out hn (by simp) (fun gn capn w1 ho hg hat => hKn _ _ ?_)); clear hKn Kn
  refine wpList_val (v := ?_) rfl ?_ ?_
  rotate_left
  · (go_simp; (try (first | with_reducible rfl | (constructor <;> with_reducible rfl))))
  (try simp only [Act.put, nA, nB, nC])
  refine wpList_nil ?_
  go_wp2_with fail
  go_ret
  exact ⟨_, rfl, B0.out.grown hg (by simp) (by intro k hk; injection hk with hk; omega), ho, gn, rfl, by rcases hat with rfl | rfl <;> simp⟩
end Go.Proofs.Ytpoiobgpggiebaa
/- output.Start. -/
namespace Go.Proofs.Ytpoiobgpggiebaa
open Go.RowKit
open Go
set_option maxRecDepth 100000
theorem fillo1 (A : Nat → Int) (Z : Array Value) (hZ : Z = arrv 11 (fun _ => 0)) : Instr.fill (fun i => some (i * 11, 11)) Z [(0, .agg (arrv 11 A))] = some (arrv 11 A) := by
  subst hZ; kernel_rfl
theorem zrange11 (Z : Array Value) (hZ : Z = arrv 11 (fun _ => 0)) : (Array.range (1 * 11)).map (fun i => Z[i % Z.size]!) = arrv 11 (fun _ => 0) := by
  subst hZ; kernel_rfl
theorem run_bslo1 (A : Nat → Int) (w : World) : (Instr.buildSlice 38 1 #[(0, .agg (arrv 11 A))]).run Try.prog w = .ok (.slice (some ⟨w.heap.size, 0, none⟩) 1 1) (w.alloc (.cells (arrv 11 A) 49)) := by
  have hz : (zeroValue 49).run Try.prog w = .ok (.agg (arrv 11 (fun _ => 0))) w := by kernel_rfl
  have hs : (sizeOf 49).run Try.prog w = .ok 11 w := by kernel_rfl
  unfold Instr.buildSlice
  simp only [Sem.run_bind, run_underlying Try.underlying38, Result.andThen_ok, hs]
  rw [if_neg (by decide), if_neg (by decide)]
  have hf : Instr.fill (fun i => some (i * 11, 11)) (Array.map (fun x => (Value.agg (arrv 11 (fun _ => 0))).cells[x % (Value.agg (arrv 11 (fun _ => 0))).cells.size]!) (Array.range (1 * 11))) [(0, Value.agg (arrv 11 A))] = some (arrv 11 A) :=
    fillo1 A _ (zrange11 (arrv 11 (fun _ => 0)) rfl)
  simp only [Sem.run_bind, hz, Result.andThen_ok, Sem.run_pure, hf]
  simp [newRow, newObj, go_sem]
  rfl
theorem wp_bslo1 {o : Oper} {a : Act} {w : World} {K : Act → World → Prop} {Q : Exit → Act → World → Prop} {A : Nat → Int} (x : Operand) (ho : o.op = .buildSlice 38 1 #[(0, x)])
    (hx : a.eval x = .agg (arrv 11 A)) (h : K (a.put o.dst (.slice (some ⟨w.heap.size, 0, none⟩) 1 1)) (w.alloc (.cells (arrv 11 A) 49))) : o.wp Try.prog a w K Q := by
  unfold Oper.wp execOp
  simp only [ho, Sem.run_bind, List.map_toArray, List.map_cons, List.map_nil, hx, run_bslo1 A w, Result.andThen_ok]
  exact h
theorem outc_one1 (A : Nat → Int) : outc 1 (fun _ => A) = (arrv 11 A).toList := by
  apply List.ext_getElem?
  intro k
  by_cases hk : k < 11
  · have b := outc_get (L := fun _ => A) (n := 1) (k := 0) (by omega) k hk
    rw [Nat.zero_mul, Nat.zero_add] at b
    rw [b, Array.getElem?_toList, arrv_get hk]
  · rw [List.getElem?_eq_none (by rw [outc_len]; omega), List.getElem?_eq_none (by rw [Array.length_toList, arrv_size]; omega)]
theorem own_one (w : World) (A : Nat → Int) : OwnO (w.alloc (.cells (arrv 11 A) 49)) (.slice (some ⟨w.heap.size, 0, none⟩) 1 1) 1 (fun _ => A) :=
  ⟨by rw [outc_len], .inr ⟨w.heap.size, 1, arrv 11 A, rfl, Nat.zero_le _, heap_alloc_new w _, Nat.le_refl _, by unfold maxLen; omega, by rw [arrv_size], by
    rw [outc_one1, List.take_of_length_le (by rw [Array.length_toList, arrv_size]; omega)]⟩⟩
/-- A new list of outputs taken into the predictor. -/
theorem pd_set {w : World} {pb : Nat} {z g : Int} {v v' : Value} {n n' : Nat} {L L' : Nat → Nat → Int} (p : PdR w pb z g v n L) (h : OwnO w v' n' L') (hn : v'.ownBlock ≠ some pb) :
    PdR (w.setCell ⟨pb, 2, none⟩ v') pb z g v' n' L' ∧ Chg (fun k => k = pb) w (w.setCell ⟨pb, 2, none⟩ v') := by
  have e := heap_setCell_same w pb 2 _ _ v' p.blk
  refine ⟨⟨e, h.kept fun k _ hk => heap_setCell_other w _ k v' (fun e => hn (by rw [← hk, e])), hn⟩, ⟨rfl, rfl, rfl, by rw [setCell_size]; exact Nat.le_refl _, fun k _ hk => heap_setCell_other w _ k v' hk⟩⟩
set_option maxHeartbeats 4000000 in
theorem start_out (c : Addr) (h : Bool) (pb : Nat) (z g : Int) (n : Nat) (L : Nat → Nat → Int) (v : Value) (S : Nat → Int) (t : Int) (w : World) (hc : w.cell? c = some (.bool h)) (hf : w.frozen? c = false) (hp : PdR w pb z g v n L) (hcp : c.block ≠ pb) (hvc : ∀ k, v.ownBlock = some k → k ≠ c.block) :
    Calls Try.prog 13 #[.pointer (some ⟨pb, 0, none⟩), .pointer (some c), .agg (arrv 24 S), .int .i64 t] w fun e w' => ∃ v', e = .returned (.tuple #[]) ∧ PdR w' pb z g v' 1 (fun _ => ofF S t) ∧ w'.cell? c = some (.bool (h || keepH S)) ∧ w'.frozen? c = false ∧ Chg (fun k => k = pb ∨ k = c.block) w w' ∧ ∃ gb, v'.ownBlock = some gb ∧ w.heap.size ≤ gb := by
  have L0 := Lib.hid (show LsR c h [⟨w.heap.size, 32, 24, S⟩] (w.heap.size + 1) w (w.alloc (.cells (arrv 24 S) 32)) from (ls_nil hc hf).lay 32 24 S)
  have P0 := Lib.hid hp
  have hlt := hp.lt
  clear hc hf hp
  go_enter Try.func13, Try.ntmps13
  go_upto_region 1 with fail
  generalize w.alloc (.cells (arrv 24 S) 32) = W0 at *
  have S0 := L0.out.e0
  refine wp_region_lit ?_
  refine wpList_val (v := ?_) rfl ?_ ?_
  rotate_left
  · (go_simp; (try (first | with_reducible rfl | (constructor <;> with_reducible rfl))))
  (try simp only [Act.put, nA, nB, nC])
  refine wpList_val (v := ?_) rfl ?_ ?_
  rotate_left
  · (go_simp; (try (first | with_reducible rfl | (constructor <;> with_reducible rfl))))
  (try simp only [Act.put, nA, nB, nC])
  refine wpList_val (v := ?_) rfl ?_ ?_
  rotate_left
  · refine Eq.trans (run_load_row 32 (.tmp 6) (by rfl) (w.heap.size) (by rfl) _ _ _ _ (S0) Try.underlying32 rfl (ist.trans (by rw [arrv_size]))) ?_; with_reducible rfl
  (try simp only [Act.put, nA, nB, nC])
  refine wpList_val (v := ?_) rfl ?_ ?_
  rotate_left
  · (go_simp; (try (first | with_reducible rfl | (constructor <;> with_reducible rfl))))
  (try simp only [Act.put, nA, nB, nC])
  refine wpList_step (fun K hK => ?_)
  go_simp
  (refine (outof_any c h S t _ L0.out.cell L0.out.free).mono ?_); rintro e w1 ⟨rfl, hu⟩; have L1 := Lib.hid (L0.out.upd' hu); clear hu L0 S0
  (try dsimp only)
  (try simp only [Act.put, nA, nB, nC])
  refine hK _ _ ?_
  clear hK K
  refine wpList_plain rfl (fun Kn hKn => wp_bslo1 (.tmp 12) (by rfl) (by rfl) (hKn _ _ ?_)); clear hKn Kn; have P1 := Lib.hid ((P0.out.kept (Chg.upd (X := fun k => k = c.block) L1.out.upd rfl) (fun e => hcp e.symm) hvc)); have P2 := Lib.hid (P1.out.kept (X := fun _ => False) (Chg.below ((Below.refl _ _).alloc (Nat.le_refl _) (.cells (arrv 11 (ofF S t)) 49))) (fun h => h) (fun _ _ h => h)); have O2 := Lib.hid (own_one w1 (ofF S t)); have L2 := Lib.hid (L1.out.alloc (.cells (arrv 11 (ofF S t)) 49)); have hl1 := L1.out.lim; have hl2 := L1.out.le; clear P0 P1 L1; obtain ⟨gb, hgb⟩ : ∃ x, w1.heap.size = x := ⟨_, rfl⟩; rw [hgb] at O2 hl2 ⊢; generalize w1.alloc (.cells (arrv 11 (ofF S t)) 49) = W2 at *; have c2 := P2.out.c2; have f2 := P2.out.free 2
  refine wpList_val (v := ?_) rfl ?_ ?_
  rotate_left
  · (go_simp; (try (first | with_reducible rfl | (constructor <;> with_reducible rfl))))
  (try simp only [Act.put, nA, nB, nC])
  refine wpList_val (v := ?_) rfl ?_ ?_
  rotate_left
  · (go_simp; (try (first | with_reducible rfl | (constructor <;> with_reducible rfl))))
  (try simp only [Act.put, nA, nB, nC])
  refine wpList_done (w' := ?_) rfl ?_ ?_
  rotate_left
  · (go_simp; (try (first | with_reducible rfl | (constructor <;> with_reducible rfl))))
  (try simp only [Act.put, nA, nB, nC])
  refine wpList_nil ?_
  have PS := Lib.hid (pd_set P2.out O2.out (by simp [Value.ownBlock]; omega))
  generalize W2.setCell ⟨pb, 2, none⟩ (.slice (some ⟨gb, 0, none⟩) 1 1) = W3 at *
  go_wp2_with fail
  go_end0
  exact ⟨_, rfl, PS.out.1, by rw [World.cell?_of_block (PS.out.2.block c.block (World.block_lt_of_cell? _ _ L2.out.cell) hcp)]; exact L2.out.cell, by rw [World.frozen?_of_block (PS.out.2.block c.block (World.block_lt_of_cell? _ _ L2.out.cell) hcp)]; exact L2.out.free, (Chg.upd L2.out.upd (.inr rfl)).then PS.out.2 (fun i _ e => .inl e), gb, rfl, by omega⟩
end Go.Proofs.Ytpoiobgpggiebaa
/- The product of quaternions, the matrix of one, as the program's numbers. No program. -/
namespace Go.Proofs.Ytpoiobgpggiebaa
def q4 (a b c d : Int) : Nat → Int := fun i => if i = 0 then a else if i = 1 then b else if i = 2 then c else d
def qmR (B : Nat → Int) : Nat → Nat → Int
  | 0 => q4 (B 0) (-B 1) (-B 2) (-B 3)
  | 1 => q4 (B 1) (B 0) (B 3) (-B 2)
  | 2 => q4 (B 2) (-B 3) (B 0) (B 1)
  | _ => q4 (B 3) (B 2) (-B 1) (B 0)
def qmV (A B : Nat → Int) : Nat → Int := fun r => dotV 30 (satA A) (qmR (satA B) r) 4
def qmH (A B : Nat → Int) : Bool := orB (fun i => satH (A i)) 4 || orB (fun i => satH (B i)) 4 || orB (fun r => dotH 30 (satA A) (qmR (satA B) r) 4) 4
/-- The numbers of the matrix: nine sums of products of the clamped quaternion. -/
def roA (q : Nat → Int) : Nat → Nat → Int
  | 0 => q | 4 => q | 8 => q
  | 1 => q4 (q 1) (q 1) (-q 0) (-q 0)
  | 2 => q4 (q 1) (q 1) (q 0) (q 0)
  | 3 => q4 (q 1) (q 1) (q 0) (q 0)
  | 5 => q4 (q 2) (q 2) (-q 0) (-q 0)
  | 6 => q4 (q 1) (q 1) (-q 0) (-q 0)
  | _ => q4 (q 2) (q 2) (q 0) (q 0)
def roB (q : Nat → Int) : Nat → Nat → Int
  | 0 => q4 (q 0) (q 1) (-q 2) (-q 3)
  | 4 => q4 (q 0) (-q 1) (q 2) (-q 3)
  | 8 => q4 (q 0) (-q 1) (-q 2) (q 3)
  | 1 => q4 (q 2) (q 2) (q 3) (q 3)
  | 2 => q4 (q 3) (q 3) (q 2) (q 2)
  | 3 => q4 (q 2) (q 2) (q 3) (q 3)
  | 5 => q4 (q 3) (q 3) (q 1) (q 1)
  | 6 => q4 (q 3) (q 3) (q 2) (q 2)
  | _ => q4 (q 3) (q 3) (q 1) (q 1)
def roN (q : Nat → Int) (k : Nat) : Int := dotV 30 (roA q k) (roB q k) 4
def roNH (q : Nat → Int) (k : Nat) : Bool := dotH 30 (roA q k) (roB q k) 4
def roV (Q : Nat → Int) : Nat → Int := fun k => roN (satA Q) k
def roH (Q : Nat → Int) : Bool := orB (fun i => satH (Q i)) 4 || orB (roNH (satA Q)) 9
def apV (M V : Nat → Int) : Nat → Int := fun i => dotV 30 (fun k => M (3 * i + k)) V 3
def apH (M V : Nat → Int) : Bool := orB (fun i => dotH 30 (fun k => M (3 * i + k)) V 3) 3
end Go.Proofs.Ytpoiobgpggiebaa
/- Sines and cosines as the program's numbers. No program. -/
namespace Go.Proofs.Ytpoiobgpggiebaa
def wrpV (a : Int) : Int := if 3373259426 < a.tmod 6746518852 then a.tmod 6746518852 - 6746518852 else if a.tmod 6746518852 ≤ -3373259426 then a.tmod 6746518852 + 6746518852 else a.tmod 6746518852
theorem tmod_bd (a : Int) : -6746518852 < a.tmod 6746518852 ∧ a.tmod 6746518852 < 6746518852 := by
  have := Int.tmod_lt_of_pos a (show (0 : Int) < 6746518852 by decide)
  have := Int.tmod_lt_of_pos (-a) (show (0 : Int) < 6746518852 by decide)
  rw [Int.neg_tmod] at this
  omega
theorem wrpV_bd (a : Int) : -3373259426 < wrpV a ∧ wrpV a ≤ 3373259426 := by
  have := tmod_bd a
  unfold wrpV
  split
  · omega
  · split <;> omega
/-- Folded into the quarters round nought. -/
def fldV (w : Int) : Int := if 1686629713 < w then 3373259426 - w else if w < -1686629713 then -3373259426 - w else w
theorem fldV_bd {w : Int} (h : -3373259426 < w) (h2 : w ≤ 3373259426) : -1686629713 ≤ fldV w ∧ fldV w ≤ 1686629713 := by
  unfold fldV
  split
  · omega
  · split <;> omega
def serV (z : Int) (L : Nat → Int) : Nat → Int | 0 => L 0 | k + 1 => addV (L (k + 1)) (mulV z (serV z L k) 30)
def serH (z : Int) (L : Nat → Int) : Nat → Bool | 0 => false | k + 1 => serH z L k || mulH z (serV z L k) 30 || addH (L (k + 1)) (mulV z (serV z L k) 30)
def sinL : Nat → Int | 0 => -27 | 1 => 2959 | 2 => -213044 | 3 => 8947849 | 4 => -178956971 | _ => 1073741824
def cosL : Nat → Int | 0 => 2 | 1 => -296 | 2 => 26631 | 3 => -1491308 | 4 => 44739243 | 5 => -536870912 | _ => 1073741824
/-- The sine of a small angle; the cosine of one; of an angle in the quarters round nought. -/
def sn1V (w : Int) : Int := mulV w (serV (mulV w w 30) sinL 5) 30
def sn1H (w : Int) : Bool := mulH w w 30 || serH (mulV w w 30) sinL 5 || mulH w (serV (mulV w w 30) sinL 5) 30
def cs1V (x : Int) : Int := serV (mulV x x 30) cosL 6
def cs1H (x : Int) : Bool := mulH x x 30 || serH (mulV x x 30) cosL 6
def qrtV (w : Int) : Int := if absV w ≤ 843314857 then sn1V w else if w < 0 then -cs1V (1686629713 - absV w) else cs1V (1686629713 - absV w)
def qrtH (w : Int) : Bool := if absV w ≤ 843314857 then sn1H w else cs1H (1686629713 - absV w)
def oneC (s : Int) : Int := min (max s (-1073741824)) 1073741824
def sinV (a : Int) : Int := oneC (qrtV (fldV (wrpV (satV a))))
def sinH (a : Int) : Bool := satH a || qrtH (fldV (wrpV (satV a)))
def cosV (a : Int) : Int := sinV (1686629713 + wrpV a)
def cosH (a : Int) : Bool := sinH (1686629713 + wrpV a)
theorem addV_bd (a b : Int) : -1152921504606846976 ≤ addV a b ∧ addV a b ≤ 1152921504606846976 := satV_bd _
theorem cs1V_bd (x : Int) : -1152921504606846976 ≤ cs1V x ∧ cs1V x ≤ 1152921504606846976 := addV_bd _ _
end Go.Proofs.Ytpoiobgpggiebaa
/- Contracts of package trig: Wrap, m, series, Sin, Cos. -/
namespace Go.Proofs.Ytpoiobgpggiebaa
open Go.RowKit
set_option maxRecDepth 100000
theorem wrap_any (a : Int) (w : World) : Calls Try.prog 86 #[.int .i64 a] w fun e w' => e = .returned (.int .i64 (wrpV a)) ∧ w = w' := by
  have b := tmod_bd a
  have e0 : IntKind.i64.wrap (a.tmod 6746518852) = a.tmod 6746518852 := IntWalk.i64_in _ (by omega)
  have EV := Lib.hid (show wrpV a = if 3373259426 < a.tmod 6746518852 then a.tmod 6746518852 - 6746518852 else if a.tmod 6746518852 ≤ -3373259426 then a.tmod 6746518852 + 6746518852 else a.tmod 6746518852 from rfl)
  obtain ⟨V, hV⟩ : ∃ x, wrpV a = x := ⟨_, rfl⟩
  rw [hV] at EV ⊢
  clear hV
  obtain ⟨r, hr⟩ : ∃ x, a.tmod 6746518852 = x := ⟨_, rfl⟩
  rw [hr] at b e0 EV
  by_cases h1 : 3373259426 < r
  · have d1 : decide (3373259426 < r) = true := by simpa using h1
    have EE := Lib.hid (show V = r - 6746518852 by rw [EV.out, if_pos h1])
    have e1 : IntKind.i64.wrap (r - 6746518852) = r - 6746518852 := IntWalk.i64_in _ (by omega)
    clear EV h1 b
    go_enter Try.func86, Try.ntmps86
    go_upto_region 2 with fail
    (try simp only [hr, e0])
    go_wp2_with fail
    go_ret
    exact ⟨by rw [EE.out]; rfl, rfl⟩
  · have d1 : decide (3373259426 < r) = false := by simpa using h1
    by_cases h2 : r ≤ -3373259426
    · have d2 : decide (r ≤ -3373259426) = true := by simpa using h2
      have EE := Lib.hid (show V = r + 6746518852 by rw [EV.out, if_neg h1, if_pos h2])
      have e1 : IntKind.i64.wrap (r + 6746518852) = r + 6746518852 := IntWalk.i64_in _ (by omega)
      clear EV h1 h2 b
      go_enter Try.func86, Try.ntmps86
      go_upto_region 2 with fail
      (try simp only [hr, e0])
      go_wp2_with fail
      go_ret
      exact ⟨by rw [EE.out]; rfl, rfl⟩
    · have d2 : decide (r ≤ -3373259426) = false := by simpa using h2
      have EE := Lib.hid (show V = r by rw [EV.out, if_neg h1, if_neg h2])
      clear EV h1 h2 b
      go_enter Try.func86, Try.ntmps86
      go_upto_region 2 with fail
      (try simp only [hr, e0])
      go_wp2_with fail
      go_ret
      exact ⟨by rw [EE.out]; rfl, rfl⟩
theorem tm_any (c : Addr) (h : Bool) (a b : Int) (w : World) (hc : w.cell? c = some (.bool h)) (hf : w.frozen? c = false) :
    Calls Try.prog 87 #[.pointer (some c), .int .i64 a, .int .i64 b] w fun e w' => e = .returned (.int .i64 (mulV a b 30)) ∧ Upd c (h || mulH a b 30) w w' := by
  have MC := Lib.hid (fmul_any c h a b 30 w hc hf)
  clear hc hf
  go_enter Try.func87, Try.ntmps87
  go_wp2_with (go_at_call 25; (refine MC.out.mono ?_); rintro e w1 ⟨rfl, hu1⟩)
  go_ret
  exact ⟨rfl, hu1⟩
/-- A slice of numbers, above which the call may build. -/
def Lst (w : World) (pa oa n : Nat) (L : Nat → Int) : Prop := ∀ i, i < n → w.cell? ⟨pa, oa + i, none⟩ = some (.int .i64 (L i))
theorem Lst.upd {w w' : World} {pa oa n : Nat} {L : Nat → Int} {c : Addr} {h h' : Bool} (s : Lst w pa oa n L) (hc : w.cell? c = some (.bool h)) (u : Upd c h' w w') : Lst w' pa oa n L := fun i hi => by
  have k := s i hi
  rw [u.cell (World.block_lt_of_cell? w _ k) (fun e => by rw [e] at hc; rw [hc] at k; cases k), k]
theorem Lst.below {w w' : World} {pa oa n : Nat} {L : Nat → Int} (s : Lst w pa oa n L) (u : Below w.heap.size w w') : Lst w' pa oa n L := fun i hi => by
  have k := s i hi
  exact (u.cell (World.block_lt_of_cell? w _ k)).trans k
structure SeR (c : Addr) (h : Bool) (pa oa n : Nat) (L : Nat → Int) (w wr : World) : Prop where
  upd : Upd c h w wr
  lst : Lst wr pa oa n L
  cell : wr.cell? c = some (.bool h)
  free : wr.frozen? c = false
theorem SeR.upd' {c : Addr} {h h' : Bool} {pa oa n : Nat} {L : Nat → Int} {w wr w' : World} (s : SeR c h pa oa n L w wr) (u : Upd c h' wr w') : SeR c h' pa oa n L w w' :=
  ⟨s.upd.trans u, s.lst.upd s.cell u, u.cellc s.cell, (u.frozen (World.block_lt_of_cell? _ _ s.cell)).trans s.free⟩
theorem SeR.down {c : Addr} {h : Bool} {pa oa n : Nat} {L : Nat → Int} {w wr w' : World} (s : SeR c h pa oa n L w wr) (u : Below wr.heap.size wr w') : SeR c h pa oa n L w w' :=
  ⟨s.upd.then u, s.lst.below u, (u.cell (World.block_lt_of_cell? _ _ s.cell)).trans s.cell, (u.frozen (World.block_lt_of_cell? _ _ s.cell)).trans s.free⟩
set_option maxHeartbeats 4000000 in
theorem series_any (c : Addr) (h : Bool) (z : Int) (L : Nat → Int) (pa oa ca n : Nat) (w : World) (hc : w.cell? c = some (.bool h)) (hf : w.frozen? c = false) (hn0 : 1 ≤ n) (hn : n ≤ 40) (hcap : n + 1 ≤ ca)
    (hL : Lst w pa oa (n + 1) L) :
    Calls Try.prog 88 #[.pointer (some c), .int .i64 z, .slice (some ⟨pa, oa, none⟩) (n + 1 : Nat) ca] w fun e w' => e = .returned (.int .i64 (serV z L n)) ∧ Upd c (h || serH z L n) w w' := by
  have hcb := World.block_lt_of_cell? w c hc
  have R0 := Lib.hid (show SeR c h pa oa (n + 1) L w w from ⟨Upd.refl hc, hL, hc, hf⟩)
  have HF := Lib.hid hf
  have L0 := hL 0 (by omega)
  rw [Nat.add_zero] at L0
  clear hc hf hL
  go_enter Try.func88, Try.ntmps88
  go_upto_region 2 with fail
  have hcap2 : (1 : Int) ≤ (ca : Int) := by omega
  have hcap3 : ¬ ca = 1 := by omega
  have hn1 : (1 : Int) ≤ ((n + 1 : Nat) : Int) := by omega
  go_wp2_with fail
  go_loopw [7, 16] (fun s i wr => ∃ k : Nat, k ≤ n ∧ s = .int .i64 (serV z L k) ∧ i = .int .i64 k ∧ Hid (SeR c (h || serH z L k) pa oa (n + 1) L w wr)) (fun _ i _ => n - (intOf i).toNat)
  case atStart => exact ⟨0, by omega, rfl, rfl, by rw [show (h || serH z L 0) = h from by simp [serH]]; exact R0⟩
  case round =>
    obtain ⟨k, hk, rfl, rfl, R⟩ := hrel
    clear R0 L0
    by_cases hlt : k < n
    · have g1 : decide (k < n) = true := by simpa using hlt
      have k0 : (0 : Int) ≤ (k : Int) := Int.natCast_nonneg _
      have k1 : (k : Int) < (n : Int) := by omega
      have Lk := R.out.lst (k + 1) (by omega)
      rw [show oa + (k + 1) = oa + 1 + k by omega] at Lk
      have ES := Lib.hid (And.intro (show serV z L (k + 1) = addV (L (k + 1)) (mulV z (serV z L k) 30) from rfl) (show (h || serH z L (k + 1)) = (h || serH z L k || mulH z (serV z L k) 30 || addH (L (k + 1)) (mulV z (serV z L k) 30)) by simp [serH, Bool.or_assoc]))
      obtain ⟨LV, hLV⟩ : ∃ x, L (k + 1) = x := ⟨_, rfl⟩
      obtain ⟨S, hS⟩ : ∃ x, serV z L k = x := ⟨_, rfl⟩
      obtain ⟨H, hH⟩ : ∃ x, (h || serH z L k) = x := ⟨_, rfl⟩
      rw [hLV] at Lk
      rw [hLV, hS, hH] at ES
      rw [hH] at R
      rw [hS]
      have TC := tm_any c H z S wr R.out.cell R.out.free
      obtain ⟨M, hM⟩ : ∃ x, mulV z S 30 = x := ⟨_, rfl⟩
      obtain ⟨H2, hH2⟩ : ∃ x, (H || mulH z S 30) = x := ⟨_, rfl⟩
      rw [hM, hH2] at TC
      rw [hM, hH2] at ES
      have TC := Lib.hid TC
      clear hLV hS hH hM hH2
      go_upto_region 5 with fail
      refine wp_region_lit ?_
      refine wpList_val (v := ?_) rfl ?_ ?_
      rotate_left
      · (go_simp; (try (first | with_reducible rfl | (constructor <;> with_reducible rfl))))
      (try simp only [Act.put, nA, nB, nC])
      refine wpList_val (v := ?_) rfl ?_ ?_
      rotate_left
      · (go_simp; (try (first | with_reducible rfl | (constructor <;> with_reducible rfl))))
      (try simp only [Act.put, nA, nB, nC])
      refine wpList_val (v := ?_) rfl ?_ ?_
      rotate_left
      · (go_simp; (try (first | with_reducible rfl | (constructor <;> with_reducible rfl))))
      (try simp only [Act.put, nA, nB, nC])
      refine wpList_val (v := ?_) rfl ?_ ?_
      rotate_left
      · (go_simp; (try (first | with_reducible rfl | (constructor <;> with_reducible rfl))))
      (try simp only [Act.put, nA, nB, nC])
      refine wpList_val (v := ?_) rfl ?_ ?_
      rotate_left
      · (go_simp; (try (first | with_reducible rfl | (constructor <;> with_reducible rfl))))
      (try simp only [Act.put, nA, nB, nC])
      refine wpList_step (fun K hK => ?_)
      go_simp
      (refine TC.out.mono ?_); rintro e w1 ⟨rfl, hu1⟩; have R1 := Lib.hid (R.out.upd' hu1); clear hu1 TC R Lk
      (try dsimp only)
      (try simp only [Act.put, nA, nB, nC])
      refine hK _ _ ?_
      clear hK K
      refine wpList_act (v := ?_) (w' := ?_) rfl ?_ ?_
      rotate_left 2
      · (go_simp; (try (first | with_reducible rfl | (constructor <;> with_reducible rfl))))
      (try simp only [Act.put, nA, nB, nC])
      refine wpList_step (fun K hK => ?_)
      go_simp
      have R2 := Lib.hid (R1.out.down (Below.alloc (Below.refl _ _) (Nat.le_refl _) (.cells #[.int .i64 LV, .int .i64 M] 2))); (refine (fadd_any c H2 (two LV M) w1.heap.size 0 2 2 _ R2.out.cell R2.out.free (by decide) (by intro i hi; obtain rfl | rfl : i = 0 ∨ i = 1 := (by omega); simp [go_sem, two]; simp [go_sem, two])).mono ?_); (rw [(add2 LV M true).1, (add2 LV M _).2]); rintro e w2 ⟨rfl, hu2⟩; have R3 := Lib.hid (R2.out.upd' hu2); clear hu2 R2 R1
      (try dsimp only)
      (try simp only [Act.put, nA, nB, nC])
      refine hK _ _ ?_
      clear hK K
      refine wpList_val (v := ?_) rfl ?_ ?_
      rotate_left
      · (go_simp; (try (first | with_reducible rfl | (constructor <;> with_reducible rfl))))
      (try simp only [Act.put, nA, nB, nC])
      refine wpList_nil ?_
      go_wp2_with fail
      go_roundw
      case rel => exact ⟨k + 1, by omega, by rw [ES.out.1], by go_num, by rw [ES.out.2]; exact R3⟩
      case measure => simp [intOf]; omega
    · have hkn : k = n := by omega
      subst hkn
      have g1 : decide (k < k) = false := by simp
      go_wp2_with fail
      go_ret
      exact ⟨rfl, R.out.upd⟩
end Go.Proofs.Ytpoiobgpggiebaa
