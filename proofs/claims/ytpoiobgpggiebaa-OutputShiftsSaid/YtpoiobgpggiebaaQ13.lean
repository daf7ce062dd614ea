/- Contracts of the program's functions and plain laws, part 13: they hold for all arguments. -/
import Derived.Test.YtpoiobgpggiebaaQ12
import Derived.Test.YtpoiobgpggiebaaQ09
import Derived.Test.YtpoiobgpggiebaaQ07
import Derived.Test.YtpoiobgpggiebaaQ04
import Derived.Test.YtpoiobgpggiebaaProg
import Derived.Deep.AppendLies
/- Contracts of package rot (3): Apply. -/
namespace Go.Proofs.Ytpoiobgpggiebaa
open Go.RowKit
set_option maxRecDepth 100000
/-- The blocks of rot.Apply. -/
structure ApR (c : Addr) (h : Bool) (M V F : Nat → Int) (w wr : World) : Prop where
  upd : Upd c h w wr
  m : Blk wr w.heap.size 92 9 M
  v : Blk wr (w.heap.size + 1) 43 3 V
  r : Blk wr (w.heap.size + 1 + 1) 43 3 (fun _ => 0)
  o : Blk wr (w.heap.size + 1 + 1 + 1) 43 3 F
  cell : wr.cell? c = some (.bool h)
  free : wr.frozen? c = false
  cb : c.block < w.heap.size
theorem ApR.upd' {c : Addr} {h h' : Bool} {M V F : Nat → Int} {w wr w' : World} (s : ApR c h M V F w wr) (u : Upd c h' wr w') : ApR c h' M V F w w' := by
  have hcb := s.cb
  exact ⟨s.upd.trans u, s.m.upd u (by omega), s.v.upd u (by omega), s.r.upd u (by omega), s.o.upd u (by omega), u.cellc s.cell, (u.frozen (World.block_lt_of_cell? _ _ s.cell)).trans s.free, s.cb⟩
theorem ApR.down {c : Addr} {h : Bool} {M V F : Nat → Int} {w wr w' : World} (s : ApR c h M V F w wr) (u : Below wr.heap.size wr w') : ApR c h M V F w w' :=
  ⟨s.upd.then u, s.m.below u, s.v.below u, s.r.below u, s.o.below u, (u.cell (World.block_lt_of_cell? _ _ s.cell)).trans s.cell, (u.frozen (World.block_lt_of_cell? _ _ s.cell)).trans s.free, s.cb⟩
theorem ApR.drew {c : Addr} {h : Bool} {M V F : Nat → Int} {w wr : World} (s : ApR c h M V F w wr) : ApR c h M V F w wr.drew := s.down (Below.drew (Below.refl _ _))
theorem ApR.set {c : Addr} {h : Bool} {M V F : Nat → Int} {w wr : World} (s : ApR c h M V F w wr) (i : Nat) (x : Int) : ApR c h M V (Go.Proofs.Ytpoiobgpggiebaa.upd F i x) w (wr.setCell ⟨w.heap.size + 1 + 1 + 1, i, none⟩ (.int .i64 x)) := by
  have hcb := s.cb
  exact ⟨s.upd.setCell (by first | omega | (simp; done) | (simp; omega)) _, s.m.other (by first | omega | (simp; done) | (simp; omega)) _, s.v.other (by first | omega | (simp; done) | (simp; omega)) _, s.r.other (by simp) _, s.o.set _ _, by rw [World.cell?_setCell_other _ _ _ _ (fun e => by rw [← e] at hcb; dsimp only at hcb; omega)]; exact s.cell, by rw [World.frozen?_setCell]; exact s.free, s.cb⟩
theorem ApR.congr {c : Addr} {h h' : Bool} {M V F G : Nat → Int} {w wr : World} (s : ApR c h M V F w wr) (eh : h = h') (e : ∀ i, i < 3 → F i = G i) : ApR c h' M V G w wr := by
  subst eh; exact ⟨s.upd, s.m, s.v, s.r, s.o.congr e, s.cell, s.free, s.cb⟩
theorem ap_start (c : Addr) (h : Bool) (M V : Nat → Int) (w : World) (hc : w.cell? c = some (.bool h)) (hf : w.frozen? c = false) :
    ApR c h M V (fun _ => 0) w ((((w.alloc (.cells (arrv 9 M) 92)).alloc (.cells (arrv 3 V) 43)).alloc (.cells #[.int .i64 0, .int .i64 0, .int .i64 0] 43)).alloc (.cells #[.int .i64 0, .int .i64 0, .int .i64 0] 43)) := by
  have hcb := World.block_lt_of_cell? w c hc
  have bl : Below w.heap.size w ((((w.alloc (.cells (arrv 9 M) 92)).alloc (.cells (arrv 3 V) 43)).alloc (.cells #[.int .i64 0, .int .i64 0, .int .i64 0] 43)).alloc (.cells #[.int .i64 0, .int .i64 0, .int .i64 0] 43)) := by (repeat (first | with_reducible exact Below.refl _ _ | with_reducible apply Below.drew | (with_reducible refine below_drewN ?_ _) | (with_reducible refine Below.alloc ?_ (by (try simp) <;> omega) _) | (with_reducible refine Below.setCell ?_ (by (try simp) <;> omega) _)))
  refine ⟨Upd.then (Upd.refl hc) bl, ?_, ?_, ?_, ?_, (bl.cell hcb).trans hc, (bl.frozen hcb).trans hf, hcb⟩
  · exact (((Blk.new w _ 9 M).alloc _).alloc _).alloc _
  · exact ((Blk.new1 w _ _ 3 V).alloc _).alloc _
  · rw [zv3]; exact (blk_new2 w _ _ _ 3 _).alloc _
  · rw [zv3]; exact blk_new3 w _ _ _ _ 3 _
theorem m9u : Try.prog.underlying 92 = some (.array (Try.prog.arrayLen 92) (Try.prog.elem 92)) := by kernel_rfl
theorem m9len : Try.prog.arrayLen 92 = 9 := by kernel_rfl
open Go in
/-- m[l:h] of a matrix. -/
theorem run_slice_m9 {o : Oper} {ev : Operand → Value} {w : World} (x y z : Operand) (ho : o.op = .slice 92 x (some y) (some z) none) (g : Nat) (hx : ev x = .pointer (some ⟨g, 0, none⟩))
    (l h : Nat) (hy : ev y = .int .i64 (l : Int)) (hz : ev z = .int .i64 (h : Int)) (hlh : l ≤ h) (hh : h ≤ 9) (hl : l < 9) : (execOp ev o).run Try.prog w = .ok (.value (.slice (some ⟨g, l, none⟩) (h - l) (9 - l))) w := by
  have h := run_sliceAt_array_lh (P := Try.prog) w 92 ⟨g, 0, none⟩ m9u .i64 .i64 (l : Int) (h : Int) (by omega) (by omega) (by rw [m9len]; omega)
  unfold execOp
  simp only [ho, hx, hy, hz, Option.map_some, Option.map_none]
  rw [Sem.run_bind, h]
  have hs : (sizeOf (Try.prog.elem 92)).run Try.prog w = .ok 1 w := by rw [show Try.prog.elem 92 = 2 from by kernel_rfl]; simp [go_sem]
  rw [hs, m9len]
  simp [slicedAt, go_sem]
  omega
def apK (M V : Nat → Int) (k : Nat) : Nat → Int := fun i => if i < k then apV M V i else 0
def apHK (M V : Nat → Int) (k : Nat) : Bool := orB (fun i => dotH 30 (fun k => M (3 * i + k)) V 3) k
set_option maxHeartbeats 8000000 in
theorem apply_any (c : Addr) (h : Bool) (M V : Nat → Int) (w : World) (hc : w.cell? c = some (.bool h)) (hf : w.frozen? c = false) :
    Calls Try.prog 47 #[.pointer (some c), .agg (arrv 9 M), .agg (arrv 3 V)] w fun e w' => e = .returned (.agg (arrv 3 (apV M V))) ∧ Upd c (h || apH M V) w w' := by
  have S0 := Lib.hid (ap_start c h M V w hc hf)
  clear hc hf
  go_enter Try.func47, Try.ntmps47
  go_upto_region 2 with fail
  generalize (((w.alloc (.cells (arrv 9 M) 92)).alloc (.cells (arrv 3 V) 43)).alloc (.cells #[.int .i64 0, .int .i64 0, .int .i64 0] 43)).alloc (.cells #[.int .i64 0, .int .i64 0, .int .i64 0] 43) = W0 at *
  go_wp2_with fail
  go_loopw [9] (fun i wr => ∃ k : Nat, k ≤ 3 ∧ i = .int .i64 k ∧ Hid (ApR c (h || apHK M V k) M V (apK M V k) w wr)) (fun i _ => 3 - (intOf i).toNat)
  case atStart => exact ⟨0, by omega, rfl, Lib.hid (S0.out.congr (by simp [orB, apHK]) fun i hi => by simp [apK])⟩
  case round =>
    obtain ⟨k, hk, rfl, R⟩ := hrel
    clear S0
    by_cases hlt : k < 3
    · obtain rfl | rfl | rfl : k = 0 ∨ k = 1 ∨ k = 2 := by omega
      · have HK := Lib.hid (show (h || apHK M V 1) = (h || apHK M V 0 || dotH 30 (fun j => M (0 + j)) V 3) by simp [apHK, orB, Bool.or_assoc])
        have HA := Lib.hid (show apV M V 0 = dotV 30 (fun j => M (0 + j)) V 3 from rfl)
        obtain ⟨H, hH⟩ : ∃ x, (h || apHK M V 0) = x := ⟨_, rfl⟩
        rw [hH] at R HK
        have DC := Lib.hid (fun (x : World) (s : ApR c H M V (apK M V 0) w x) => dot_any c H 30 (fun j => M (0 + j)) V w.heap.size 0 9 (w.heap.size + 1) 0 3 3 x s.cell s.free (by decide) (by decide) (by decide) (fun i hi => s.m.cell (by omega)) (fun i hi => by rw [Nat.zero_add]; exact s.v.cell hi))
        obtain ⟨D, hD⟩ : ∃ x, dotV 30 (fun j => M (0 + j)) V 3 = x := ⟨_, rfl⟩
        rw [hD] at HA DC
        obtain ⟨H2, hH2⟩ : ∃ x, (H || dotH 30 (fun j => M (0 + j)) V 3) = x := ⟨_, rfl⟩
        rw [hH2] at HK DC
        clear hH hD hH2
        go_upto_region 5 with fail
        have HS := Lib.hid R.out.drew
        clear R
        refine wp_region_M (fun _ => True) 11 (by kernel_rfl) ?_ (fun hHeld => ?_)
        · trivial
        refine wpAnyM_take 0 (v := ?_) rfl (by kernel_rfl) (fun _ _ _ h => h) (Or.inl ⟨by rfl, ?_⟩) (by assumption) ?_
        rotate_left
        · (intro wx hSw; (try dsimp only at hSw); go_simp; (try with_reducible rfl))
        (try simp only [Act.put, nA, nB, nC])
        refine wpAnyM_take 1 (v := ?_) rfl (by kernel_rfl) (fun _ _ _ h => h) (Or.inl ⟨by rfl, ?_⟩) (by assumption) ?_
        rotate_left
        · (intro wx hSw; (try dsimp only at hSw); go_simp; (try with_reducible rfl))
        (try simp only [Act.put, nA, nB, nC])
        refine wpAnyM_take 2 (v := ?_) rfl (by kernel_rfl) (fun _ _ _ h => h) (Or.inl ⟨by rfl, ?_⟩) (by assumption) ?_
        rotate_left
        · (intro wx hSw; (try dsimp only at hSw); go_simp; (try with_reducible rfl))
        (try simp only [Act.put, nA, nB, nC])
        refine wpAnyM_take 3 (v := ?_) rfl (by kernel_rfl) (fun _ _ _ h => h) (Or.inl ⟨by rfl, ?_⟩) (by assumption) ?_
        rotate_left
        · (intro wx hSw; (try dsimp only at hSw); go_simp; (try with_reducible rfl))
        (try simp only [Act.put, nA, nB, nC])
        refine wpAnyM_take 4 (v := ?_) rfl (by kernel_rfl) (fun _ _ _ h => h) (Or.inl ⟨by rfl, ?_⟩) (by assumption) ?_
        rotate_left
        · (intro wx hSw; (try dsimp only at hSw); go_simp; (try with_reducible rfl))
        (try simp only [Act.put, nA, nB, nC])
        refine wpAnyM_take 5 (v := ?_) rfl (by kernel_rfl) (fun _ _ _ h => h) (Or.inl ⟨by rfl, ?_⟩) (by assumption) ?_
        rotate_left
        · (intro wx hSw; (try dsimp only at hSw); go_simp; (try with_reducible rfl))
        (try simp only [Act.put, nA, nB, nC])
        refine wpAnyM_take 6 (v := ?_) rfl (by kernel_rfl) (fun _ _ _ h => h) (Or.inl ⟨by rfl, ?_⟩) (by assumption) ?_
        rotate_left
        · (intro wx hSw; (try dsimp only at hSw); go_simp; (try with_reducible rfl))
        (try simp only [Act.put, nA, nB, nC])
        refine wpAnyM_take 7 (v := ?_) rfl (by kernel_rfl) (fun _ _ _ h => h) (Or.inl ⟨by rfl, ?_⟩) (by assumption) ?_
        rotate_left
        · (intro wx hSw; refine Eq.trans (run_slice_m9 (.tmp 4) (.tmp 15) (.tmp 18) (by rfl) w.heap.size (by rfl) 0 3 (by first | rfl | (simp; done)) (by first | rfl | (simp; done)) (by decide) (by decide) (by decide)) ?_; with_reducible rfl)
        (try simp only [Act.put, nA, nB, nC])
        refine wpAnyM_take 8 (v := ?_) rfl (by kernel_rfl) (fun _ _ _ h => h) (Or.inl ⟨by rfl, ?_⟩) (by assumption) ?_
        rotate_left
        · (intro wx hSw; (try dsimp only at hSw); go_simp; (try with_reducible rfl))
        (try simp only [Act.put, nA, nB, nC])
        refine wpAnyM_oneS 9 rfl (by kernel_rfl) (fun K hK => ?_)
        go_simp
        (refine (DC.out _ HS.out).mono ?_); rintro e w1 ⟨rfl, hu⟩; have HT := Lib.hid (HS.out.upd' hu); clear HS hu; have HS := HT; clear HT; have af := HS.out.o.free 0; have ac := HS.out.o.cell (i := 0) (by decide)
        (try dsimp only)
        (try simp only [Act.put, nA, nB, nC])
        clear hHeld
        refine hK.out _ _ ?_ (fun hHeld => ?_)
        · trivial
        clear hK K
        (try simp only [Act.put, nA, nB, nC])
        refine wpAnyM_take 10 (v := ?_) rfl (by kernel_rfl) (fun _ _ _ h => h) (Or.inl ⟨by rfl, ?_⟩) (by assumption) ?_
        rotate_left
        · (intro wx hSw; (try dsimp only at hSw); go_simp; (try with_reducible rfl))
        (try simp only [Act.put, nA, nB, nC])
        refine wpAnyM_one 11 rfl (by kernel_rfl) (fun K hK => ?_)
        go_simp
        refine hK.out _ _ (.inl (by kernel_rfl)) (fun _ => ?_)
        clear hK K
        (try simp only [Act.put, nA, nB, nC])
        refine wpAnyM_done (by kernel_rfl) ?_ _
        clear af ac
        go_wp2_with fail
        go_roundw
        case rel =>
          refine ⟨1, by omega, by go_num, Lib.hid ((HS.out.set 0 D).congr HK.out.symm fun i hi => ?_)⟩
          simp only [Go.Proofs.Ytpoiobgpggiebaa.upd, apK]
          by_cases h1 : i = 0
          · subst h1; rw [if_pos rfl, if_pos (by omega), HA.out]
          · rw [if_neg h1]
            by_cases h2 : i < 0
            · rw [if_pos h2, if_pos (by omega)]
            · rw [if_neg h2, if_neg (by omega)]
        case measure => simp [intOf]
      · have HK := Lib.hid (show (h || apHK M V 2) = (h || apHK M V 1 || dotH 30 (fun j => M (3 + j)) V 3) by simp [apHK, orB, Bool.or_assoc])
        have HA := Lib.hid (show apV M V 1 = dotV 30 (fun j => M (3 + j)) V 3 from rfl)
        obtain ⟨H, hH⟩ : ∃ x, (h || apHK M V 1) = x := ⟨_, rfl⟩
        rw [hH] at R HK
        have DC := Lib.hid (fun (x : World) (s : ApR c H M V (apK M V 1) w x) => dot_any c H 30 (fun j => M (3 + j)) V w.heap.size 3 6 (w.heap.size + 1) 0 3 3 x s.cell s.free (by decide) (by decide) (by decide) (fun i hi => s.m.cell (by omega)) (fun i hi => by rw [Nat.zero_add]; exact s.v.cell hi))
        obtain ⟨D, hD⟩ : ∃ x, dotV 30 (fun j => M (3 + j)) V 3 = x := ⟨_, rfl⟩
        rw [hD] at HA DC
        obtain ⟨H2, hH2⟩ : ∃ x, (H || dotH 30 (fun j => M (3 + j)) V 3) = x := ⟨_, rfl⟩
        rw [hH2] at HK DC
        clear hH hD hH2
        go_upto_region 5 with fail
        have HS := Lib.hid R.out.drew
        clear R
        refine wp_region_M (fun _ => True) 11 (by kernel_rfl) ?_ (fun hHeld => ?_)
        · trivial
        refine wpAnyM_take 0 (v := ?_) rfl (by kernel_rfl) (fun _ _ _ h => h) (Or.inl ⟨by rfl, ?_⟩) (by assumption) ?_
        rotate_left
        · (intro wx hSw; (try dsimp only at hSw); go_simp; (try with_reducible rfl))
        (try simp only [Act.put, nA, nB, nC])
        refine wpAnyM_take 1 (v := ?_) rfl (by kernel_rfl) (fun _ _ _ h => h) (Or.inl ⟨by rfl, ?_⟩) (by assumption) ?_
        rotate_left
        · (intro wx hSw; (try dsimp only at hSw); go_simp; (try with_reducible rfl))
        (try simp only [Act.put, nA, nB, nC])
        refine wpAnyM_take 2 (v := ?_) rfl (by kernel_rfl) (fun _ _ _ h => h) (Or.inl ⟨by rfl, ?_⟩) (by assumption) ?_
        rotate_left
        · (intro wx hSw; (try dsimp only at hSw); go_simp; (try with_reducible rfl))
        (try simp only [Act.put, nA, nB, nC])
        refine wpAnyM_take 3 (v := ?_) rfl (by kernel_rfl) (fun _ _ _ h => h) (Or.inl ⟨by rfl, ?_⟩) (by assumption) ?_
        rotate_left
        · (intro wx hSw; (try dsimp only at hSw); go_simp; (try with_reducible rfl))
        (try simp only [Act.put, nA, nB, nC])
        refine wpAnyM_take 4 (v := ?_) rfl (by kernel_rfl) (fun _ _ _ h => h) (Or.inl ⟨by rfl, ?_⟩) (by assumption) ?_
        rotate_left
        · (intro wx hSw; (try dsimp only at hSw); go_simp; (try with_reducible rfl))
        (try simp only [Act.put, nA, nB, nC])
        refine wpAnyM_take 5 (v := ?_) rfl (by kernel_rfl) (fun _ _ _ h => h) (Or.inl ⟨by rfl, ?_⟩) (by assumption) ?_
        rotate_left
        · (intro wx hSw; (try dsimp only at hSw); go_simp; (try with_reducible rfl))
        (try simp only [Act.put, nA, nB, nC])
        refine wpAnyM_take 6 (v := ?_) rfl (by kernel_rfl) (fun _ _ _ h => h) (Or.inl ⟨by rfl, ?_⟩) (by assumption) ?_
        rotate_left
        · (intro wx hSw; (try dsimp only at hSw); go_simp; (try with_reducible rfl))
        (try simp only [Act.put, nA, nB, nC])
        refine wpAnyM_take 7 (v := ?_) rfl (by kernel_rfl) (fun _ _ _ h => h) (Or.inl ⟨by rfl, ?_⟩) (by assumption) ?_
        rotate_left
        · (intro wx hSw; refine Eq.trans (run_slice_m9 (.tmp 4) (.tmp 15) (.tmp 18) (by rfl) w.heap.size (by rfl) 3 6 (by first | rfl | (simp; done)) (by first | rfl | (simp; done)) (by decide) (by decide) (by decide)) ?_; with_reducible rfl)
        (try simp only [Act.put, nA, nB, nC])
        refine wpAnyM_take 8 (v := ?_) rfl (by kernel_rfl) (fun _ _ _ h => h) (Or.inl ⟨by rfl, ?_⟩) (by assumption) ?_
        rotate_left
        · (intro wx hSw; (try dsimp only at hSw); go_simp; (try with_reducible rfl))
        (try simp only [Act.put, nA, nB, nC])
        refine wpAnyM_oneS 9 rfl (by kernel_rfl) (fun K hK => ?_)
        go_simp
        (refine (DC.out _ HS.out).mono ?_); rintro e w1 ⟨rfl, hu⟩; have HT := Lib.hid (HS.out.upd' hu); clear HS hu; have HS := HT; clear HT; have af := HS.out.o.free 1; have ac := HS.out.o.cell (i := 1) (by decide)
        (try dsimp only)
        (try simp only [Act.put, nA, nB, nC])
        clear hHeld
        refine hK.out _ _ ?_ (fun hHeld => ?_)
        · trivial
        clear hK K
        (try simp only [Act.put, nA, nB, nC])
        refine wpAnyM_take 10 (v := ?_) rfl (by kernel_rfl) (fun _ _ _ h => h) (Or.inl ⟨by rfl, ?_⟩) (by assumption) ?_
        rotate_left
        · (intro wx hSw; (try dsimp only at hSw); go_simp; (try with_reducible rfl))
        (try simp only [Act.put, nA, nB, nC])
        refine wpAnyM_one 11 rfl (by kernel_rfl) (fun K hK => ?_)
        go_simp
        refine hK.out _ _ (.inl (by kernel_rfl)) (fun _ => ?_)
        clear hK K
        (try simp only [Act.put, nA, nB, nC])
        refine wpAnyM_done (by kernel_rfl) ?_ _
        clear af ac
        go_wp2_with fail
        go_roundw
        case rel =>
          refine ⟨2, by omega, by go_num, Lib.hid ((HS.out.set 1 D).congr HK.out.symm fun i hi => ?_)⟩
          simp only [Go.Proofs.Ytpoiobgpggiebaa.upd, apK]
          by_cases h1 : i = 1
          · subst h1; rw [if_pos rfl, if_pos (by omega), HA.out]
          · rw [if_neg h1]
            by_cases h2 : i < 1
            · rw [if_pos h2, if_pos (by omega)]
            · rw [if_neg h2, if_neg (by omega)]
        case measure => simp [intOf]
      · have HK := Lib.hid (show (h || apHK M V 3) = (h || apHK M V 2 || dotH 30 (fun j => M (6 + j)) V 3) by simp [apHK, orB, Bool.or_assoc])
        have HA := Lib.hid (show apV M V 2 = dotV 30 (fun j => M (6 + j)) V 3 from rfl)
        obtain ⟨H, hH⟩ : ∃ x, (h || apHK M V 2) = x := ⟨_, rfl⟩
        rw [hH] at R HK
        have DC := Lib.hid (fun (x : World) (s : ApR c H M V (apK M V 2) w x) => dot_any c H 30 (fun j => M (6 + j)) V w.heap.size 6 3 (w.heap.size + 1) 0 3 3 x s.cell s.free (by decide) (by decide) (by decide) (fun i hi => s.m.cell (by omega)) (fun i hi => by rw [Nat.zero_add]; exact s.v.cell hi))
        obtain ⟨D, hD⟩ : ∃ x, dotV 30 (fun j => M (6 + j)) V 3 = x := ⟨_, rfl⟩
        rw [hD] at HA DC
        obtain ⟨H2, hH2⟩ : ∃ x, (H || dotH 30 (fun j => M (6 + j)) V 3) = x := ⟨_, rfl⟩
        rw [hH2] at HK DC
        clear hH hD hH2
        go_upto_region 5 with fail
        have HS := Lib.hid R.out.drew
        clear R
        refine wp_region_M (fun _ => True) 11 (by kernel_rfl) ?_ (fun hHeld => ?_)
        · trivial
        refine wpAnyM_take 0 (v := ?_) rfl (by kernel_rfl) (fun _ _ _ h => h) (Or.inl ⟨by rfl, ?_⟩) (by assumption) ?_
        rotate_left
        · (intro wx hSw; (try dsimp only at hSw); go_simp; (try with_reducible rfl))
        (try simp only [Act.put, nA, nB, nC])
        refine wpAnyM_take 1 (v := ?_) rfl (by kernel_rfl) (fun _ _ _ h => h) (Or.inl ⟨by rfl, ?_⟩) (by assumption) ?_
        rotate_left
        · (intro wx hSw; (try dsimp only at hSw); go_simp; (try with_reducible rfl))
        (try simp only [Act.put, nA, nB, nC])
        refine wpAnyM_take 2 (v := ?_) rfl (by kernel_rfl) (fun _ _ _ h => h) (Or.inl ⟨by rfl, ?_⟩) (by assumption) ?_
        rotate_left
        · (intro wx hSw; (try dsimp only at hSw); go_simp; (try with_reducible rfl))
        (try simp only [Act.put, nA, nB, nC])
        refine wpAnyM_take 3 (v := ?_) rfl (by kernel_rfl) (fun _ _ _ h => h) (Or.inl ⟨by rfl, ?_⟩) (by assumption) ?_
        rotate_left
        · (intro wx hSw; (try dsimp only at hSw); go_simp; (try with_reducible rfl))
        (try simp only [Act.put, nA, nB, nC])
        refine wpAnyM_take 4 (v := ?_) rfl (by kernel_rfl) (fun _ _ _ h => h) (Or.inl ⟨by rfl, ?_⟩) (by assumption) ?_
        rotate_left
        · (intro wx hSw; (try dsimp only at hSw); go_simp; (try with_reducible rfl))
        (try simp only [Act.put, nA, nB, nC])
        refine wpAnyM_take 5 (v := ?_) rfl (by kernel_rfl) (fun _ _ _ h => h) (Or.inl ⟨by rfl, ?_⟩) (by assumption) ?_
        rotate_left
        · (intro wx hSw; (try dsimp only at hSw); go_simp; (try with_reducible rfl))
        (try simp only [Act.put, nA, nB, nC])
        refine wpAnyM_take 6 (v := ?_) rfl (by kernel_rfl) (fun _ _ _ h => h) (Or.inl ⟨by rfl, ?_⟩) (by assumption) ?_
        rotate_left
        · (intro wx hSw; (try dsimp only at hSw); go_simp; (try with_reducible rfl))
        (try simp only [Act.put, nA, nB, nC])
        refine wpAnyM_take 7 (v := ?_) rfl (by kernel_rfl) (fun _ _ _ h => h) (Or.inl ⟨by rfl, ?_⟩) (by assumption) ?_
        rotate_left
        · (intro wx hSw; refine Eq.trans (run_slice_m9 (.tmp 4) (.tmp 15) (.tmp 18) (by rfl) w.heap.size (by rfl) 6 9 (by first | rfl | (simp; done)) (by first | rfl | (simp; done)) (by decide) (by decide) (by decide)) ?_; with_reducible rfl)
        (try simp only [Act.put, nA, nB, nC])
        refine wpAnyM_take 8 (v := ?_) rfl (by kernel_rfl) (fun _ _ _ h => h) (Or.inl ⟨by rfl, ?_⟩) (by assumption) ?_
        rotate_left
        · (intro wx hSw; (try dsimp only at hSw); go_simp; (try with_reducible rfl))
        (try simp only [Act.put, nA, nB, nC])
        refine wpAnyM_oneS 9 rfl (by kernel_rfl) (fun K hK => ?_)
        go_simp
        (refine (DC.out _ HS.out).mono ?_); rintro e w1 ⟨rfl, hu⟩; have HT := Lib.hid (HS.out.upd' hu); clear HS hu; have HS := HT; clear HT; have af := HS.out.o.free 2; have ac := HS.out.o.cell (i := 2) (by decide)
        (try dsimp only)
        (try simp only [Act.put, nA, nB, nC])
        clear hHeld
        refine hK.out _ _ ?_ (fun hHeld => ?_)
        · trivial
        clear hK K
        (try simp only [Act.put, nA, nB, nC])
        refine wpAnyM_take 10 (v := ?_) rfl (by kernel_rfl) (fun _ _ _ h => h) (Or.inl ⟨by rfl, ?_⟩) (by assumption) ?_
        rotate_left
        · (intro wx hSw; (try dsimp only at hSw); go_simp; (try with_reducible rfl))
        (try simp only [Act.put, nA, nB, nC])
        refine wpAnyM_one 11 rfl (by kernel_rfl) (fun K hK => ?_)
        go_simp
        refine hK.out _ _ (.inl (by kernel_rfl)) (fun _ => ?_)
        clear hK K
        (try simp only [Act.put, nA, nB, nC])
        refine wpAnyM_done (by kernel_rfl) ?_ _
        clear af ac
        go_wp2_with fail
        go_roundw
        case rel =>
          refine ⟨3, by omega, by go_num, Lib.hid ((HS.out.set 2 D).congr HK.out.symm fun i hi => ?_)⟩
          simp only [Go.Proofs.Ytpoiobgpggiebaa.upd, apK]
          by_cases h1 : i = 2
          · subst h1; rw [if_pos rfl, if_pos (by omega), HA.out]
          · rw [if_neg h1]
            by_cases h2 : i < 2
            · rw [if_pos h2, if_pos (by omega)]
            · rw [if_neg h2, if_neg (by omega)]
        case measure => simp [intOf]
    · have hk3 : k = 3 := by omega
      subst hk3
      have HE := Lib.hid (show apHK M V 3 = apH M V from rfl)
      have R2 := R.out.congr rfl (G := apV M V) fun i hi => by simp only [apK]; rw [if_pos hi]
      rw [HE.out] at R2
      have U := Lib.hid R2.upd
      have B0 := R2.o
      have B1 := R2.r
      clear R R2
      rw [show ((3 : Nat) : Int) = 3 from rfl]
      go_wp2_with (first | (refine wpList_load_row rfl 43 _ rfl (w.heap.size + 1 + 1 + 1) rfl 43 _ (0, 0) _ (B0) Try.underlying43 rfl (iv3.trans (by rw [arrv_size])) ?_) | (refine wpList_store_row rfl 43 _ _ rfl (w.heap.size + 1 + 1) _ rfl rfl 43 _ (B1) (iv3.trans (by rw [arrv_size])) (by rw [arrv_size, arrv_size]) (oneCell_arrv _ _) ?_))
      refine bodyPost_ret (results_cell_row Try.results47 _ _ (w.heap.size + 1 + 1) 43 (arrv 3 (apV M V)) (0, 0) _ rfl (setRow_heap _ _ _ _ _ _ B1) Try.underlying43 rfl (iv3.trans (by rw [arrv_size]))) rfl ⟨rfl, ?_⟩
      exact U.out.then' (below_row (Below.refl _ _) (by omega) _)
end Go.Proofs.Ytpoiobgpggiebaa
/- The rotations of a vector and of a heading, as the program's numbers. No program. -/
namespace Go.Proofs.Ytpoiobgpggiebaa
def exU (v : Nat → Int) : Int := hypV (satA v) 3
def exM (v : Nat → Int) : Int := mulV (exU v) 536870912 30
def exS (v : Nat → Int) : Int := divV (sinV (exM v)) (exU v) 30
def exQ (v : Nat → Int) : Nat → Int := q4 (cosV (exM v)) (mulV (satA v 0) (exS v) 30) (mulV (satA v 1) (exS v) 30) (mulV (satA v 2) (exS v) 30)
def exV (v : Nat → Int) : Nat → Int := if exU v = 0 then oneQ else uniV (exQ v)
def exH0 (v : Nat → Int) : Bool := orB (fun i => satH (v i)) 3 || hypH (satA v) 3
def exH1 (v : Nat → Int) : Bool := mulH (exU v) 536870912 30 || sinH (exM v) || divH (sinV (exM v)) (exU v) 30 || cosH (exM v) || mulH (satA v 0) (exS v) 30 || mulH (satA v 1) (exS v) 30 || mulH (satA v 2) (exS v) 30 || uniH (exQ v)
def exH (v : Nat → Int) : Bool := exH0 v || (if exU v = 0 then false else exH1 v)
end Go.Proofs.Ytpoiobgpggiebaa
/- Contracts of package rot (4): Exp. -/
namespace Go.Proofs.Ytpoiobgpggiebaa
open Go.RowKit
set_option maxRecDepth 100000
/-- The blocks of rot.Exp. -/
structure ExR (c : Addr) (h : Bool) (V : Nat → Int) (w wr : World) : Prop where
  upd : Upd c h w wr
  v : Blk wr w.heap.size 43 3 V
  r : Blk wr (w.heap.size + 1) 42 4 (fun _ => 0)
  cell : wr.cell? c = some (.bool h)
  free : wr.frozen? c = false
  cb : c.block < w.heap.size
theorem ExR.upd' {c : Addr} {h h' : Bool} {V : Nat → Int} {w wr w' : World} (s : ExR c h V w wr) (u : Upd c h' wr w') : ExR c h' V w w' := by
  have hcb := s.cb
  exact ⟨s.upd.trans u, s.v.upd u (by omega), s.r.upd u (by omega), u.cellc s.cell, (u.frozen (World.block_lt_of_cell? _ _ s.cell)).trans s.free, s.cb⟩
theorem ExR.down {c : Addr} {h : Bool} {V : Nat → Int} {w wr w' : World} (s : ExR c h V w wr) (u : Below wr.heap.size wr w') : ExR c h V w w' :=
  ⟨s.upd.then u, s.v.below u, s.r.below u, (u.cell (World.block_lt_of_cell? _ _ s.cell)).trans s.cell, (u.frozen (World.block_lt_of_cell? _ _ s.cell)).trans s.free, s.cb⟩
theorem ExR.drew {c : Addr} {h : Bool} {V : Nat → Int} {w wr : World} (s : ExR c h V w wr) : ExR c h V w wr.drew := s.down (Below.drew (Below.refl _ _))
theorem ExR.row {c : Addr} {h : Bool} {V : Nat → Int} {w wr : World} (s : ExR c h V w wr) (F : Nat → Int) : ExR c h F w (wr.setRow w.heap.size (arrv 3 F)) := by
  have hcb := s.cb
  exact ⟨s.upd.then' (below_row (Below.refl _ _) (by omega) _), s.v.setRow F, s.r.setRow_other _ (by omega), by rw [(cell_row_other _ (by omega)).1]; exact s.cell, by rw [(cell_row_other _ (by omega)).2]; exact s.free, s.cb⟩
theorem ex_start (c : Addr) (h : Bool) (V : Nat → Int) (w : World) (hc : w.cell? c = some (.bool h)) (hf : w.frozen? c = false) :
    ExR c h V w ((w.alloc (.cells (arrv 3 V) 43)).alloc (.cells #[.int .i64 0, .int .i64 0, .int .i64 0, .int .i64 0] 42)) := by
  have hcb := World.block_lt_of_cell? w c hc
  have bl : Below w.heap.size w ((w.alloc (.cells (arrv 3 V) 43)).alloc (.cells #[.int .i64 0, .int .i64 0, .int .i64 0, .int .i64 0] 42)) := by (repeat (first | with_reducible exact Below.refl _ _ | with_reducible apply Below.drew | (with_reducible refine below_drewN ?_ _) | (with_reducible refine Below.alloc ?_ (by (try simp) <;> omega) _) | (with_reducible refine Below.setCell ?_ (by (try simp) <;> omega) _)))
  refine ⟨Upd.then (Upd.refl hc) bl, ?_, ?_, (bl.cell hcb).trans hc, (bl.frozen hcb).trans hf, hcb⟩
  · exact (Blk.new w _ 3 V).alloc _
  · rw [zq4]; exact Blk.new1 w _ _ 4 _
set_option maxHeartbeats 16000000 in
theorem exp_any (c : Addr) (h : Bool) (V : Nat → Int) (w : World) (hc : w.cell? c = some (.bool h)) (hf : w.frozen? c = false) :
    Calls Try.prog 64 #[.pointer (some c), .agg (arrv 3 V)] w fun e w' => e = .returned (.agg (arrv 4 (exV V))) ∧ Upd c (h || exH V) w w' := by
  have S0 := Lib.hid (ex_start c h V w hc hf)
  have SC := fun (x : World) (k : x.cell? c = some (.bool h)) (f : x.frozen? c = false) => vsat_any c h V x k f
  obtain ⟨U, hU⟩ : ∃ x, satA V = x := ⟨_, rfl⟩
  have hU2 : (fun i => satV (V i)) = U := hU
  rw [hU2] at SC
  obtain ⟨H1, hH1⟩ : ∃ x, (h || orB (fun i => satH (V i)) 3) = x := ⟨_, rfl⟩
  rw [hH1] at SC
  have SC := Lib.hid SC
  have NC := fun (x : World) (k : x.cell? c = some (.bool H1)) (f : x.frozen? c = false) => vnorm_any c H1 U x k f
  obtain ⟨n, hn⟩ : ∃ x, hypV U 3 = x := ⟨_, rfl⟩
  obtain ⟨H2, hH2⟩ : ∃ x, (H1 || hypH U 3) = x := ⟨_, rfl⟩
  rw [hn, hH2] at NC
  have NC := Lib.hid NC
  have hx0 : (h || exH0 V) = H2 := by unfold exH0; rw [hU, ← hH2, ← hH1]; simp [Bool.or_assoc]
  have hxn : exU V = n := by unfold exU; rw [hU]; exact hn
  clear hc hf
  by_cases hz : n = 0
  · have HV := Lib.hid (show exV V = oneQ ∧ (h || exH V) = H2 by
      unfold exV exH; rw [hxn, if_pos hz, if_pos hz, Bool.or_false]; exact ⟨rfl, hx0⟩)
    subst hz
    clear hn hxn hx0 hH1 hH2 hU hU2
    go_enter Try.func64, Try.ntmps64
    go_upto_region 1 with fail
    generalize (w.alloc (.cells (arrv 3 V) 43)).alloc (.cells #[.int .i64 0, .int .i64 0, .int .i64 0, .int .i64 0] 42) = W0 at *
    have P0 := S0.out.v
    go_upto_region 2 with (first | (refine wpList_load_row rfl 43 _ rfl (w.heap.size) rfl 43 _ (0, 0) _ (P0) Try.underlying43 rfl (iv3.trans (by rw [arrv_size])) ?_) | (go_at_call 78; (refine (SC.out _ S0.out.cell S0.out.free).mono ?_); rintro e w1 ⟨rfl, hu1⟩; have S1 := Lib.hid (S0.out.upd' hu1); have P1 := S1.out.v; clear hu1) | (refine wpList_store_row rfl 43 _ _ rfl (w.heap.size) _ rfl rfl 43 _ (P1) (iv3.trans (by rw [arrv_size])) (by rw [arrv_size, arrv_size]) (oneCell_arrv _ _) ?_))
    have S2 := Lib.hid (S1.out.row U)
    generalize w1.setRow w.heap.size (arrv 3 U) = W2 at *
    clear P0 P1 S1 S0 SC
    have P2 := S2.out.v
    go_upto_region 4 with (first | (refine wpList_load_row rfl 43 _ rfl (w.heap.size) rfl 43 _ (0, 0) _ (P2) Try.underlying43 rfl (iv3.trans (by rw [arrv_size])) ?_) | (go_at_call 79; (refine (NC.out _ S2.out.cell S2.out.free).mono ?_); rintro e w3 ⟨rfl, hu3⟩; have S3 := Lib.hid (S2.out.upd' hu3); clear hu3))
    clear P2 S2 NC
    have B1 := S3.out.r
    go_wp2_with (first | (go_at_call 16; (refine (qone_any _).mono ?_); rintro e w4 ⟨rfl, hb4⟩; have R4 := B1.below hb4; have U4 := Lib.hid (S3.out.upd.then hb4); clear hb4) | (refine wpList_store_row rfl 42 _ _ rfl (w.heap.size + 1) _ rfl rfl 42 _ (R4) (iqt.trans (by rw [arrv_size])) (by rw [arrv_size, arrv_size]) (oneCell_arrv _ _) ?_))
    refine bodyPost_ret (results_cell_row Try.results64 _ _ (w.heap.size + 1) 42 (arrv 4 oneQ) (0, 0) _ rfl (setRow_heap _ _ _ _ _ _ R4) Try.underlying42 rfl (iqt.trans (by rw [arrv_size]))) rfl ⟨by rw [HV.out.1], ?_⟩
    rw [HV.out.2]
    exact U4.out.then' (below_row (Below.refl _ _) (by omega) _)
  · have nz : (n == 0) = false := by simpa using hz
    have MC := fun (x : World) (k : x.cell? c = some (.bool H2)) (f : x.frozen? c = false) => fmul_any c H2 n 536870912 30 x k f
    obtain ⟨M, hM⟩ : ∃ x, mulV n 536870912 30 = x := ⟨_, rfl⟩
    obtain ⟨H3, hH3⟩ : ∃ x, (H2 || mulH n 536870912 30) = x := ⟨_, rfl⟩
    rw [hM, hH3] at MC
    have NN := fun (x : World) (k : x.cell? c = some (.bool H3)) (f : x.frozen? c = false) => sin_any c H3 M x k f
    obtain ⟨S, hS⟩ : ∃ x, sinV M = x := ⟨_, rfl⟩
    obtain ⟨H4, hH4⟩ : ∃ x, (H3 || sinH M) = x := ⟨_, rfl⟩
    rw [hS, hH4] at NN
    have DC := fun (x : World) (k : x.cell? c = some (.bool H4)) (f : x.frozen? c = false) => fdiv_any c H4 S n 30 x k f
    obtain ⟨D, hD⟩ : ∃ x, divV S n 30 = x := ⟨_, rfl⟩
    obtain ⟨H5, hH5⟩ : ∃ x, (H4 || divH S n 30) = x := ⟨_, rfl⟩
    rw [hD, hH5] at DC
    have CC := fun (x : World) (k : x.cell? c = some (.bool H5)) (f : x.frozen? c = false) => cos_any c H5 M x k f
    obtain ⟨C, hC⟩ : ∃ x, cosV M = x := ⟨_, rfl⟩
    obtain ⟨H6, hH6⟩ : ∃ x, (H5 || cosH M) = x := ⟨_, rfl⟩
    rw [hC, hH6] at CC
    obtain ⟨x0, hx0'⟩ : ∃ x, U 0 = x := ⟨_, rfl⟩
    obtain ⟨x1, hx1'⟩ : ∃ x, U 1 = x := ⟨_, rfl⟩
    obtain ⟨x2, hx2'⟩ : ∃ x, U 2 = x := ⟨_, rfl⟩
    have QC := fun (x : World) (g : Bool) (k : x.cell? c = some (.bool g)) (f : x.frozen? c = false) => qunit_any c g (q4 C (mulV x0 D 30) (mulV x1 D 30) (mulV x2 D 30)) x k f
    have hQ : exQ V = q4 C (mulV x0 D 30) (mulV x1 D 30) (mulV x2 D 30) := by
      unfold exQ exS exM; rw [hU, hxn, hM, hS, hD, hC, hx0', hx1', hx2']
    obtain ⟨y0, hy0⟩ : ∃ x, mulV x0 D 30 = x := ⟨_, rfl⟩
    obtain ⟨y1, hy1⟩ : ∃ x, mulV x1 D 30 = x := ⟨_, rfl⟩
    obtain ⟨y2, hy2⟩ : ∃ x, mulV x2 D 30 = x := ⟨_, rfl⟩
    rw [hy0, hy1, hy2] at QC hQ
    have HV := Lib.hid (show exV V = uniV (q4 C y0 y1 y2) ∧ (h || exH V) = (H6 || mulH x0 D 30 || mulH x1 D 30 || mulH x2 D 30 || uniH (q4 C y0 y1 y2)) by
      unfold exV exH
      rw [hxn, if_neg hz, if_neg hz, hQ]
      refine ⟨rfl, ?_⟩
      unfold exH1 exS exM
      rw [hQ, hU, hxn, hM, hS, hD, hx0', hx1', hx2', ← Bool.or_assoc, hx0, ← hH6, ← hH5, ← hH4, ← hH3]
      simp [Bool.or_assoc])
    have HX := Lib.hid (And.intro hx0' (And.intro hx1' hx2'))
    have HY := Lib.hid (And.intro hy0 (And.intro hy1 hy2))
    have MC := Lib.hid MC
    have NN := Lib.hid NN
    have DC := Lib.hid DC
    have CC := Lib.hid CC
    have QC := Lib.hid QC
    clear hn hxn hx0 hH1 hH2 hU hU2 hM hS hD hC hH3 hH4 hH5 hH6 hx0' hx1' hx2' hy0 hy1 hy2 hQ hz
    go_enter Try.func64, Try.ntmps64
    go_upto_region 1 with fail
    generalize (w.alloc (.cells (arrv 3 V) 43)).alloc (.cells #[.int .i64 0, .int .i64 0, .int .i64 0, .int .i64 0] 42) = W0 at *
    have P0 := S0.out.v
    go_upto_region 2 with (first | (refine wpList_load_row rfl 43 _ rfl (w.heap.size) rfl 43 _ (0, 0) _ (P0) Try.underlying43 rfl (iv3.trans (by rw [arrv_size])) ?_) | (go_at_call 78; (refine (SC.out _ S0.out.cell S0.out.free).mono ?_); rintro e w1 ⟨rfl, hu1⟩; have S1 := Lib.hid (S0.out.upd' hu1); have P1 := S1.out.v; clear hu1) | (refine wpList_store_row rfl 43 _ _ rfl (w.heap.size) _ rfl rfl 43 _ (P1) (iv3.trans (by rw [arrv_size])) (by rw [arrv_size, arrv_size]) (oneCell_arrv _ _) ?_))
    have S2 := Lib.hid (S1.out.row U)
    generalize w1.setRow w.heap.size (arrv 3 U) = W2 at *
    clear P0 P1 S1 S0 SC
    have P2 := S2.out.v
    go_upto_region 5 with (first | (refine wpList_load_row rfl 43 _ rfl (w.heap.size) rfl 43 _ (0, 0) _ (P2) Try.underlying43 rfl (iv3.trans (by rw [arrv_size])) ?_) | (go_at_call 79; (refine (NC.out _ S2.out.cell S2.out.free).mono ?_); rintro e w3 ⟨rfl, hu3⟩; have S3 := Lib.hid (S2.out.upd' hu3); clear hu3))
    clear P2 S2 NC
    go_upto_region 7 with (first | (go_at_call 25; (refine (MC.out _ S3.out.cell S3.out.free).mono ?_); rintro e w4 ⟨rfl, hu4⟩; have S4 := Lib.hid (S3.out.upd' hu4); clear hu4 S3) | (go_at_call 80; (refine (NN.out _ S4.out.cell S4.out.free).mono ?_); rintro e w5 ⟨rfl, hu5⟩; have S5 := Lib.hid (S4.out.upd' hu5); clear hu5 S4) | (go_at_call 53; (refine (DC.out _ S5.out.cell S5.out.free).mono ?_); rintro e w6 ⟨rfl, hu6⟩; have S6 := Lib.hid (S5.out.upd' hu6); clear hu6 S5))
    have HS := Lib.hid S6.out.drew
    clear S6
    refine wp_region_M (fun w' => w'.cell? ⟨w.heap.size, 0, none⟩ = some (.int .i64 x0) ∧ w'.cell? ⟨w.heap.size, 1, none⟩ = some (.int .i64 x1) ∧ w'.cell? ⟨w.heap.size, 2, none⟩ = some (.int .i64 x2)) 21 (by kernel_rfl) ?_ (fun hHeld => ?_)
    · exact ⟨by rw [← HX.out.1]; exact HS.out.v.cell (by decide), by rw [← HX.out.2.1]; exact HS.out.v.cell (by decide), by rw [← HX.out.2.2]; exact HS.out.v.cell (by decide)⟩
    refine wpAnyM_take 0 (v := ?_) rfl (by kernel_rfl) (fun _ _ _ h => h) (Or.inl ⟨by rfl, ?_⟩) (by assumption) ?_
    rotate_left
    · (intro wx hSw; (try dsimp only at hSw); go_simp; (try with_reducible rfl))
    (try simp only [Act.put, nA, nB, nC])
    refine wpAnyM_take 1 (v := ?_) rfl (by kernel_rfl) (fun _ _ _ h => h) (Or.inl ⟨by rfl, ?_⟩) (by assumption) ?_
    rotate_left
    · (intro wx hSw; (try dsimp only at hSw); go_simp; (try with_reducible rfl))
    (try simp only [Act.put, nA, nB, nC])
    refine wpAnyM_take 2 (v := ?_) rfl (by kernel_rfl) (fun _ _ _ h => h) (Or.inl ⟨by rfl, ?_⟩) (by assumption) ?_
    rotate_left
    · (intro wx hSw; (try dsimp only at hSw); go_simp; (try with_reducible rfl))
    (try simp only [Act.put, nA, nB, nC])
    refine wpAnyM_take 4 (v := ?_) rfl (by kernel_rfl) (fun _ _ _ h => h) (Or.inl ⟨by rfl, ?_⟩) (by assumption) ?_
    rotate_left
    · (intro wx hSw; (try dsimp only at hSw); go_simp; (try with_reducible rfl))
    (try simp only [Act.put, nA, nB, nC])
    refine wpAnyM_take 5 (v := ?_) rfl (by kernel_rfl) (fun _ _ _ h => h) (Or.inl ⟨by rfl, ?_⟩) (by assumption) ?_
    rotate_left
    · (intro wx hSw; (try dsimp only at hSw); go_simp; (try with_reducible rfl))
    (try simp only [Act.put, nA, nB, nC])
    refine wpAnyM_take 6 (v := ?_) rfl (by kernel_rfl) (fun _ _ _ h => h) (Or.inl ⟨by rfl, ?_⟩) (by assumption) ?_
    rotate_left
    · (intro wx hSw; (try dsimp only at hSw); go_simp; (try with_reducible rfl))
    (try simp only [Act.put, nA, nB, nC])
    refine wpAnyM_take 7 (v := ?_) rfl (by kernel_rfl) (fun _ _ _ h => h) (Or.inl ⟨by rfl, ?_⟩) (by assumption) ?_
    rotate_left
    · (intro wx hSw; (try dsimp only at hSw); go_simp; (try with_reducible rfl))
    (try simp only [Act.put, nA, nB, nC])
    refine wpAnyM_take 9 (v := ?_) rfl (by kernel_rfl) (fun _ _ _ h => h) (Or.inl ⟨by rfl, ?_⟩) (by assumption) ?_
    rotate_left
    · (intro wx hSw; (try dsimp only at hSw); go_simp; (try with_reducible rfl))
    (try simp only [Act.put, nA, nB, nC])
    refine wpAnyM_take 10 (v := ?_) rfl (by kernel_rfl) (fun _ _ _ h => h) (Or.inl ⟨by rfl, ?_⟩) (by assumption) ?_
    rotate_left
    · (intro wx hSw; (try dsimp only at hSw); go_simp; (try with_reducible rfl))
    (try simp only [Act.put, nA, nB, nC])
    refine wpAnyM_take 11 (v := ?_) rfl (by kernel_rfl) (fun _ _ _ h => h) (Or.inl ⟨by rfl, ?_⟩) (by assumption) ?_
    rotate_left
    · (intro wx hSw; (try dsimp only at hSw); go_simp; (try with_reducible rfl))
    (try simp only [Act.put, nA, nB, nC])
    refine wpAnyM_take 12 (v := ?_) rfl (by kernel_rfl) (fun _ _ _ h => h) (Or.inl ⟨by rfl, ?_⟩) (by assumption) ?_
    rotate_left
    · (intro wx hSw; (try dsimp only at hSw); go_simp; (try with_reducible rfl))
    (try simp only [Act.put, nA, nB, nC])
    refine wpAnyM_take 14 (v := ?_) rfl (by kernel_rfl) (fun _ _ _ h => h) (Or.inl ⟨by rfl, ?_⟩) (by assumption) ?_
    rotate_left
    · (intro wx hSw; (try dsimp only at hSw); go_simp; (try with_reducible rfl))
    (try simp only [Act.put, nA, nB, nC])
    refine wpAnyM_take 15 (v := ?_) rfl (by kernel_rfl) (fun _ _ _ h => h) (Or.inl ⟨by rfl, ?_⟩) (by assumption) ?_
    rotate_left
    · (intro wx hSw; (try dsimp only at hSw); go_simp; (try with_reducible rfl))
    (try simp only [Act.put, nA, nB, nC])
    refine wpAnyM_take 16 (v := ?_) rfl (by kernel_rfl) (fun _ _ _ h => h) (Or.inl ⟨by rfl, ?_⟩) (by assumption) ?_
    rotate_left
    · (intro wx hSw; (try dsimp only at hSw); go_simp; (try with_reducible rfl))
    (try simp only [Act.put, nA, nB, nC])
    refine wpAnyM_take 17 (v := ?_) rfl (by kernel_rfl) (fun _ _ _ h => h) (Or.inl ⟨by rfl, ?_⟩) (by assumption) ?_
    rotate_left
    · (intro wx hSw; (try dsimp only at hSw); go_simp; (try with_reducible rfl))
    (try simp only [Act.put, nA, nB, nC])
    refine wpAnyM_oneS 3 rfl (by kernel_rfl) (fun K hK => ?_)
    go_simp
    (refine (CC.out _ HS.out.cell HS.out.free).mono ?_); rintro e w7 ⟨rfl, hu⟩; have HT := Lib.hid (HS.out.upd' hu); clear HS hu; have HS := HT; clear HT
    (try dsimp only)
    (try simp only [Act.put, nA, nB, nC])
    clear hHeld
    refine hK.out _ _ ?_ (fun hHeld => ?_)
    · exact ⟨by rw [← HX.out.1]; exact HS.out.v.cell (by decide), by rw [← HX.out.2.1]; exact HS.out.v.cell (by decide), by rw [← HX.out.2.2]; exact HS.out.v.cell (by decide)⟩
    clear hK K
    (try simp only [Act.put, nA, nB, nC])
    refine wpAnyM_oneS 8 rfl (by kernel_rfl) (fun K hK => ?_)
    go_simp
    (refine (fmul_any c _ x0 D 30 _ HS.out.cell HS.out.free).mono ?_); (rw [HY.out.1]); rintro e w8 ⟨rfl, hu⟩; have HT := Lib.hid (HS.out.upd' hu); clear HS hu; have HS := HT; clear HT
    (try dsimp only)
    (try simp only [Act.put, nA, nB, nC])
    clear hHeld
    refine hK.out _ _ ?_ (fun hHeld => ?_)
    · exact ⟨by rw [← HX.out.1]; exact HS.out.v.cell (by decide), by rw [← HX.out.2.1]; exact HS.out.v.cell (by decide), by rw [← HX.out.2.2]; exact HS.out.v.cell (by decide)⟩
    clear hK K
    (try simp only [Act.put, nA, nB, nC])
    refine wpAnyM_oneS 13 rfl (by kernel_rfl) (fun K hK => ?_)
    go_simp
    (refine (fmul_any c _ x1 D 30 _ HS.out.cell HS.out.free).mono ?_); (rw [HY.out.2.1]); rintro e w9 ⟨rfl, hu⟩; have HT := Lib.hid (HS.out.upd' hu); clear HS hu; have HS := HT; clear HT
    (try dsimp only)
    (try simp only [Act.put, nA, nB, nC])
    clear hHeld
    refine hK.out _ _ ?_ (fun hHeld => ?_)
    · exact ⟨by rw [← HX.out.1]; exact HS.out.v.cell (by decide), by rw [← HX.out.2.1]; exact HS.out.v.cell (by decide), by rw [← HX.out.2.2]; exact HS.out.v.cell (by decide)⟩
    clear hK K
    (try simp only [Act.put, nA, nB, nC])
    refine wpAnyM_oneS 18 rfl (by kernel_rfl) (fun K hK => ?_)
    go_simp
    (refine (fmul_any c _ x2 D 30 _ HS.out.cell HS.out.free).mono ?_); (rw [HY.out.2.2]); rintro e w10 ⟨rfl, hu⟩; have HT := Lib.hid (HS.out.upd' hu); clear HS hu; have HS := HT; clear HT
    (try dsimp only)
    (try simp only [Act.put, nA, nB, nC])
    clear hHeld
    refine hK.out _ _ ?_ (fun hHeld => ?_)
    · exact ⟨by rw [← HX.out.1]; exact HS.out.v.cell (by decide), by rw [← HX.out.2.1]; exact HS.out.v.cell (by decide), by rw [← HX.out.2.2]; exact HS.out.v.cell (by decide)⟩
    clear hK K
    (try simp only [Act.put, nA, nB, nC])
    refine wpAnyM_take 19 (v := ?_) rfl (by kernel_rfl) (fun _ _ _ h => h) (Or.inl ⟨by rfl, ?_⟩) (by assumption) ?_
    rotate_left
    · (intro wx hSw; refine Eq.trans (run_build_q4 (.tmp 29) (.tmp 34) (.tmp 39) (.tmp 44) (by rfl) (by rfl) (by rfl) (by rfl) (by rfl)) ?_; with_reducible rfl)
    (try simp only [Act.put, nA, nB, nC])
    refine wpAnyM_oneS 20 rfl (by kernel_rfl) (fun K hK => ?_)
    go_simp
    (refine (QC.out _ _ HS.out.cell HS.out.free).mono ?_); rintro e w11 ⟨rfl, hu⟩; have HT := Lib.hid (HS.out.upd' hu); clear HS hu; have HS := HT; clear HT
    (try dsimp only)
    (try simp only [Act.put, nA, nB, nC])
    clear hHeld
    refine hK.out _ _ ?_ (fun hHeld => ?_)
    · exact ⟨by rw [← HX.out.1]; exact HS.out.v.cell (by decide), by rw [← HX.out.2.1]; exact HS.out.v.cell (by decide), by rw [← HX.out.2.2]; exact HS.out.v.cell (by decide)⟩
    clear hK K
    (try simp only [Act.put, nA, nB, nC])
    refine wpAnyM_one 21 rfl (by kernel_rfl) (fun K hK => ?_)
    go_simp; rw [if_pos (arrv_size _ _), run_storeCells_row _ HS.out.r]; go_simp
    refine hK.out _ _ (.inl (by kernel_rfl)) (fun _ => ?_)
    clear hK K
    (try simp only [Act.put, nA, nB, nC])
    refine wpAnyM_done (by kernel_rfl) ?_ _
    obtain ⟨E, hE⟩ : ∃ x, uniV (q4 C y0 y1 y2) = x := ⟨_, rfl⟩
    have r1 := HS.out.r.setRow E
    have B1 := HS.out.upd.then' (below_row (Below.refl _ _) (show w.heap.size ≤ w.heap.size + 1 by omega) (arrv 4 E))
    rw [hE]
    rw [← HV.out.2] at B1
    have HE := Lib.hid (show exV V = E by rw [HV.out.1, hE])
    clear hE
    generalize w11.setRow (w.heap.size + 1) (arrv 4 E) = W12 at *
    go_wp2_with fail
    refine bodyPost_ret (results_cell_row Try.results64 _ _ (w.heap.size + 1) 42 (arrv 4 E) (0, 0) _ rfl r1 Try.underlying42 rfl (iqt.trans (by rw [arrv_size]))) rfl ⟨by rw [HE.out], B1⟩
end Go.Proofs.Ytpoiobgpggiebaa
/- append of one number of int64 to a slice of the call's own. -/
namespace Go.Proofs.Ytpoiobgpggiebaa
open Go.RowKit
open Go
theorem info_i64 : (Try.prog.info? 2).map (fun i => (i.zero, i.size, i.bytes)) = some (some (.int .i64 0), 1, 8) := by kernel_rfl
theorem info_i64' : ∃ i, Try.prog.info? 2 = some i ∧ i.zero = some (.int .i64 0) ∧ i.size = 1 ∧ i.bytes = 8 := by
  have h := info_i64
  cases e : Try.prog.info? 2 with
  | none => rw [e] at h; cases h
  | some i => rw [e] at h; simp at h; exact ⟨i, rfl, h.1, h.2.1, h.2.2⟩
theorem own_snoc {n : Nat} {L : Nat → Int} {x : Int} : ints n L ++ [.int .i64 x] = ints (n + 1) (upd L n x) := by
  rw [ints_succ]
  congr 1
  · exact ints_congr fun i hi => by simp [upd, show ¬ i = n by omega]
  · simp [upd]
theorem run_app1 {w : World} (B : Nat) {v : Value} {n : Nat} {L : Nat → Int} (hown : Own w B 2 v n L) (nb c : Nat) (x : Int) (hx : w.cell? ⟨nb, 0, none⟩ = some (.int .i64 x)) (hn : n ≤ 1000000) (hB : B ≤ w.heap.size) (ty : TypeId) (H : Nat) (hH : w.heap.size = H) :
    ∃ g cap w', (Builtin.append_ #[78, 78] ty #[v, .slice (some ⟨nb, 0, none⟩) 1 c]).run Try.prog w = .ok (.slice (some ⟨g, 0, none⟩) (n + 1) cap) w' ∧
      Own w' B 2 (.slice (some ⟨g, 0, none⟩) (n + 1) cap) (n + 1) (upd L n x) ∧ w.grownBy w' v.ownBlock ∧ (v.ownBlock = some g ∨ g = H) ∧ g < w'.heap.size := by
  obtain ⟨i, hi, hz, hs, hb⟩ := info_i64'
  obtain ⟨g, cap, w', h1, h2, h3, h4, h5⟩ := run_append_lies (P := Try.prog) w 78 ty B 2 i (.int .i64 0) 1 8 Try.underlying78 hi hz hs hb rfl (by decide) v n (ints n L) hown ⟨nb, 0, none⟩ 1 c [.int .i64 x] rfl
    (fun j u hu => by
      have hj : j = 0 := by
        have := List.getElem?_eq_some_iff.1 hu
        obtain ⟨h, _⟩ := this
        simpa using h
      subst hj
      simp at hu
      subst hu
      simpa [Addr.add] using hx) (fun u hu => by rw [List.mem_singleton] at hu; subst hu; rfl) (by decide) (by unfold maxLen; omega) (by omega) hB H hH
  exact ⟨g, cap, w', h1, by unfold Own; rw [← own_snoc]; exact h2, h3, h4, h5⟩
theorem wp_app1 {w : World} {o : Oper} {a : Act} {K : Act → World → Prop} {Q : Exit → Act → World → Prop} (s x : Operand)
    (ho : o.op = .call { callee := .builtin .append, args := #[s, x], argTypes := #[78, 78] })
    (B : Nat) {v : Value} {n : Nat} {L : Nat → Int} (hs : a.eval s = v) (hown : Own w B 2 v n L) (nb c : Nat) (y : Int) (hx : a.eval x = .slice (some ⟨nb, 0, none⟩) 1 c) (hy : w.cell? ⟨nb, 0, none⟩ = some (.int .i64 y)) (hn : n ≤ 1000000) (hB : B ≤ w.heap.size) (H : Nat) (hH : w.heap.size = H)
    (h : ∀ g cap w', Own w' B 2 (.slice (some ⟨g, 0, none⟩) (n + 1) cap) (n + 1) (upd L n y) → w.grownBy w' v.ownBlock → (v.ownBlock = some g ∨ g = H) → g < w'.heap.size → K (a.put o.dst (.slice (some ⟨g, 0, none⟩) (n + 1) cap)) w') : o.wp Try.prog a w K Q := by
  obtain ⟨g, cap, w', hr, h2, h3, h4, h5⟩ := run_app1 B hown nb c y hy hn hB o.type H hH
  unfold Oper.wp execOp
  simp only [ho, resolve, invoke, builtin, Sem.run_bind, Sem.run_pure, Result.andThen_ok, List.map_toArray, List.map_cons, List.map_nil, hs, hx, hr]
  exact h g cap w' h2 h3 h4 h5
theorem wpList_app1 {w : World} {ops : Array Oper} {rest : List Oper} {o : Oper} {a : Act} {Q : Exit → Act → World → Prop} (hgd : o.guard = none) (s x : Operand)
    (ho : o.op = .call { callee := .builtin .append, args := #[s, x], argTypes := #[78, 78] })
    (B : Nat) {v : Value} {n : Nat} {L : Nat → Int} (hs : a.eval s = v) (hown : Own w B 2 v n L) (nb c : Nat) (y : Int) (hx : a.eval x = .slice (some ⟨nb, 0, none⟩) 1 c) (hy : w.cell? ⟨nb, 0, none⟩ = some (.int .i64 y)) (hn : n ≤ 1000000) (hB : B ≤ w.heap.size) (H : Nat) (hH : w.heap.size = H)
    (h : ∀ g cap w', Own w' B 2 (.slice (some ⟨g, 0, none⟩) (n + 1) cap) (n + 1) (upd L n y) → w.grownBy w' v.ownBlock → (v.ownBlock = some g ∨ g = H) → g < w'.heap.size → wpList Try.prog ops Q rest (a.put o.dst (.slice (some ⟨g, 0, none⟩) (n + 1) cap)) w') : wpList Try.prog ops Q (o :: rest) a w :=
  wpList_plain hgd fun _ hK => wp_app1 s x ho B hs hown nb c y hx hy hn hB H hH fun g cap w' h2 h3 h4 h5 => hK _ _ (h g cap w' h2 h3 h4 h5)
end Go.Proofs.Ytpoiobgpggiebaa
