/- Contracts and plain laws beyond the other parts: they hold for all arguments. -/
import Derived.Test.YtanmddenleffaaaQ01
import Derived.Test.YtanmddenleffaaaQ02
import Derived.Test.YtanmddenleffaaaQ03
import Derived.Test.YtanmddenleffaaaQ04
import Derived.Test.YtanmddenleffaaaQ05
import Derived.Test.YtanmddenleffaaaQ06
import Derived.Test.YtanmddenleffaaaQ07
import Derived.Test.YtanmddenleffaaaQ08
import Derived.Test.YtanmddenleffaaaQ09
import Derived.Test.YtanmddenleffaaaQ10
import Derived.Test.YtanmddenleffaaaQ11
import Derived.Test.YtanmddenleffaaaQ12
import Derived.Test.YtanmddenleffaaaQ13
import Derived.Test.YtanmddenleffaaaQ14
import Derived.Test.YtanmddenleffaaaQ15
import Derived.Test.YtanmddenleffaaaQ16
import Derived.Test.YtanmddenleffaaaQ17
import Derived.Test.YtanmddenleffaaaQ18
import Derived.Test.YtanmddenleffaaaQ19
import Derived.Test.YtanmddenleffaaaQ20
namespace Go.Proofs.Ytanmddenleffaaa
def apV (M V : Nat → Int) : Nat → Int := fun i => dotV 30 (fun k => M (3 * i + k)) V 3
def apH (M V : Nat → Int) : Bool := orB (fun i => dotH 30 (fun k => M (3 * i + k)) V 3) 3
end Go.Proofs.Ytanmddenleffaaa
namespace Go.Proofs.Ytanmddenleffaaa
open Go.RowKit
set_option maxRecDepth 100000
theorem ap_start (c : Addr) (h : Bool) (M V : Nat → Int) (w : World) (hc : w.cell? c = some (.bool h)) (hf : w.frozen? c = false) :
    ApR c h M V (fun _ => 0) w ((((w.alloc (.cells (arrv 9 M) 45)).alloc (.cells (arrv 3 V) 41)).alloc (.cells #[.int .i64 0, .int .i64 0, .int .i64 0] 41)).alloc (.cells #[.int .i64 0, .int .i64 0, .int .i64 0] 41)) := by
  have hcb := World.block_lt_of_cell? w c hc
  have bl : Below w.heap.size w ((((w.alloc (.cells (arrv 9 M) 45)).alloc (.cells (arrv 3 V) 41)).alloc (.cells #[.int .i64 0, .int .i64 0, .int .i64 0] 41)).alloc (.cells #[.int .i64 0, .int .i64 0, .int .i64 0] 41)) := by (repeat (first | with_reducible exact Below.refl _ _ | with_reducible apply Below.drew | (with_reducible refine below_drewN ?_ _) | (with_reducible refine Below.alloc ?_ (by (try simp) <;> omega) _) | (with_reducible refine Below.setCell ?_ (by (try simp) <;> omega) _)))
  refine ⟨Upd.then (Upd.refl hc) bl, ?_, ?_, ?_, ?_, (bl.cell hcb).trans hc, (bl.frozen hcb).trans hf, hcb⟩
  · exact (((Blk.new w _ 9 M).alloc _).alloc _).alloc _
  · exact ((Blk.new1 w _ _ 3 V).alloc _).alloc _
  · rw [zv3]; exact (blk_new2 w _ _ _ 3 _).alloc _
  · rw [zv3]; exact blk_new3 w _ _ _ _ 3 _
theorem m9u : Try.prog.underlying 45 = some (.array (Try.prog.arrayLen 45) (Try.prog.elem 45)) := by kernel_rfl
theorem m9len : Try.prog.arrayLen 45 = 9 := by kernel_rfl
open Go in
/-- m[l:h] of a matrix. -/
theorem run_slice_m9 {o : Oper} {ev : Operand → Value} {w : World} (x y z : Operand) (ho : o.op = .slice 45 x (some y) (some z) none) (g : Nat) (hx : ev x = .pointer (some ⟨g, 0, none⟩))
    (l h : Nat) (hy : ev y = .int .i64 (l : Int)) (hz : ev z = .int .i64 (h : Int)) (hlh : l ≤ h) (hh : h ≤ 9) (hl : l < 9) : (execOp ev o).run Try.prog w = .ok (.value (.slice (some ⟨g, l, none⟩) (h - l) (9 - l))) w := by
  have h := run_sliceAt_array_lh (P := Try.prog) w 45 ⟨g, 0, none⟩ m9u .i64 .i64 (l : Int) (h : Int) (by omega) (by omega) (by rw [m9len]; omega)
  unfold execOp
  simp only [ho, hx, hy, hz, Option.map_some, Option.map_none]
  rw [Sem.run_bind, h]
  have hs : (sizeOf (Try.prog.elem 45)).run Try.prog w = .ok 1 w := by rw [show Try.prog.elem 45 = 2 from by kernel_rfl]; simp [go_sem]
  rw [hs, m9len]
  simp [slicedAt, go_sem]
  omega
def apK (M V : Nat → Int) (k : Nat) : Nat → Int := fun i => if i < k then apV M V i else 0
def apHK (M V : Nat → Int) (k : Nat) : Bool := orB (fun i => dotH 30 (fun k => M (3 * i + k)) V 3) k
set_option maxHeartbeats 8000000 in
theorem apply_any (c : Addr) (h : Bool) (M V : Nat → Int) (w : World) (hc : w.cell? c = some (.bool h)) (hf : w.frozen? c = false) :
    Calls Try.prog 14 #[.pointer (some c), .agg (arrv 9 M), .agg (arrv 3 V)] w fun e w' => e = .returned (.agg (arrv 3 (apV M V))) ∧ Upd c (h || apH M V) w w' := by
  have S0 := Lib.hid (ap_start c h M V w hc hf)
  clear hc hf
  go_enter Try.func14, Try.ntmps14
  go_upto_region 2 with fail
  generalize (((w.alloc (.cells (arrv 9 M) 45)).alloc (.cells (arrv 3 V) 41)).alloc (.cells #[.int .i64 0, .int .i64 0, .int .i64 0] 41)).alloc (.cells #[.int .i64 0, .int .i64 0, .int .i64 0] 41) = W0 at *
  go_wp2_with fail
  go_loopw [9] (fun i wr => ∃ k : Nat, k ≤ 3 ∧ i = .int .i64 k ∧ Hid (ApR c (h || apHK M V k) M V (apK M V k) w wr)) (fun i _ => 3 - (intOf i).toNat)
  case atStart => exact ⟨0, by omega, rfl, Lib.hid (S0.out.congr (by simp [orB, apHK]) fun i hi => by simp [apK])⟩
  case round =>
    obtain ⟨k, hk, rfl, R⟩ := hrel
    clear S0
    by_cases hlt : k < 3
    · obtain rfl | rfl | rfl : k = 0 ∨ k = 1 ∨ k = 2 := by omega
      · have HK := Lib.hid (show (h || apHK M V 1) = (h || apHK M V 0 || dotH 30 (fun j => M (0 + j)) V 3) by simp [apHK, orB, Bool.or_assoc])
        have HA := Lib.hid (show apV M V 0 = dotV 30 (fun j => M (0 + j)) V 3 from rfl)
        obtain ⟨H, hH⟩ : ∃ x, (h || apHK M V 0) = x := ⟨_, rfl⟩
        rw [hH] at R HK
        have DC := Lib.hid (fun (x : World) (s : ApR c H M V (apK M V 0) w x) => dot_any c H 30 (fun j => M (0 + j)) V w.heap.size 0 9 (w.heap.size + 1) 0 3 3 x s.cell s.free (by decide) (by decide) (by decide) (fun i hi => s.m.cell (by omega)) (fun i hi => by rw [Nat.zero_add]; exact s.v.cell hi))
        obtain ⟨D, hD⟩ : ∃ x, dotV 30 (fun j => M (0 + j)) V 3 = x := ⟨_, rfl⟩
        rw [hD] at HA DC
        obtain ⟨H2, hH2⟩ : ∃ x, (H || dotH 30 (fun j => M (0 + j)) V 3) = x := ⟨_, rfl⟩
        rw [hH2] at HK DC
        clear hH hD hH2
        go_upto_region 5 with fail
        have HS := Lib.hid R.out.drew
        clear R
        refine wp_region_M (fun _ => True) 11 (by kernel_rfl) ?_ (fun hHeld => ?_)
        · trivial
        refine wpAnyM_take 0 (v := ?_) rfl (by kernel_rfl) (fun _ _ _ h => h) (Or.inl ⟨by rfl, ?_⟩) (by assumption) ?_
        rotate_left
        · (intro wx hSw; (try dsimp only at hSw); go_simp; (try with_reducible rfl))
        (try simp only [Act.put, nA, nB, nC])
        refine wpAnyM_take 1 (v := ?_) rfl (by kernel_rfl) (fun _ _ _ h => h) (Or.inl ⟨by rfl, ?_⟩) (by assumption) ?_
        rotate_left
        · (intro wx hSw; (try dsimp only at hSw); go_simp; (try with_reducible rfl))
        (try simp only [Act.put, nA, nB, nC])
        refine wpAnyM_take 2 (v := ?_) rfl (by kernel_rfl) (fun _ _ _ h => h) (Or.inl ⟨by rfl, ?_⟩) (by assumption) ?_
        rotate_left
        · (intro wx hSw; (try dsimp only at hSw); go_simp; (try with_reducible rfl))
        (try simp only [Act.put, nA, nB, nC])
        refine wpAnyM_take 3 (v := ?_) rfl (by kernel_rfl) (fun _ _ _ h => h) (Or.inl ⟨by rfl, ?_⟩) (by assumption) ?_
        rotate_left
        · (intro wx hSw; (try dsimp only at hSw); go_simp; (try with_reducible rfl))
        (try simp only [Act.put, nA, nB, nC])
        refine wpAnyM_take 4 (v := ?_) rfl (by kernel_rfl) (fun _ _ _ h => h) (Or.inl ⟨by rfl, ?_⟩) (by assumption) ?_
        rotate_left
        · (intro wx hSw; (try dsimp only at hSw); go_simp; (try with_reducible rfl))
        (try simp only [Act.put, nA, nB, nC])
        refine wpAnyM_take 5 (v := ?_) rfl (by kernel_rfl) (fun _ _ _ h => h) (Or.inl ⟨by rfl, ?_⟩) (by assumption) ?_
        rotate_left
        · (intro wx hSw; (try dsimp only at hSw); go_simp; (try with_reducible rfl))
        (try simp only [Act.put, nA, nB, nC])
        refine wpAnyM_take 6 (v := ?_) rfl (by kernel_rfl) (fun _ _ _ h => h) (Or.inl ⟨by rfl, ?_⟩) (by assumption) ?_
        rotate_left
        · (intro wx hSw; (try dsimp only at hSw); go_simp; (try with_reducible rfl))
        (try simp only [Act.put, nA, nB, nC])
        refine wpAnyM_take 7 (v := ?_) rfl (by kernel_rfl) (fun _ _ _ h => h) (Or.inl ⟨by rfl, ?_⟩) (by assumption) ?_
        rotate_left
        · (intro wx hSw; refine Eq.trans (run_slice_m9 (.tmp 4) (.tmp 15) (.tmp 18) (by rfl) w.heap.size (by rfl) 0 3 (by first | rfl | (simp; done)) (by first | rfl | (simp; done)) (by decide) (by decide) (by decide)) ?_; with_reducible rfl)
        (try simp only [Act.put, nA, nB, nC])
        refine wpAnyM_take 8 (v := ?_) rfl (by kernel_rfl) (fun _ _ _ h => h) (Or.inl ⟨by rfl, ?_⟩) (by assumption) ?_
        rotate_left
        · (intro wx hSw; (try dsimp only at hSw); go_simp; (try with_reducible rfl))
        (try simp only [Act.put, nA, nB, nC])
        refine wpAnyM_oneS 9 rfl (by kernel_rfl) (fun K hK => ?_)
        go_simp
        (refine (DC.out _ HS.out).mono ?_); rintro e w1 ⟨rfl, hu⟩; have HT := Lib.hid (HS.out.upd' hu); clear HS hu; have HS := HT; clear HT; have af := HS.out.o.free 0; have ac := HS.out.o.cell (i := 0) (by decide)
        (try dsimp only)
        (try simp only [Act.put, nA, nB, nC])
        clear hHeld
        refine hK.out _ _ ?_ (fun hHeld => ?_)
        · trivial
        clear hK K
        (try simp only [Act.put, nA, nB, nC])
        refine wpAnyM_take 10 (v := ?_) rfl (by kernel_rfl) (fun _ _ _ h => h) (Or.inl ⟨by rfl, ?_⟩) (by assumption) ?_
        rotate_left
        · (intro wx hSw; (try dsimp only at hSw); go_simp; (try with_reducible rfl))
        (try simp only [Act.put, nA, nB, nC])
        refine wpAnyM_one 11 rfl (by kernel_rfl) (fun K hK => ?_)
        go_simp
        refine hK.out _ _ (.inl (by kernel_rfl)) (fun _ => ?_)
        clear hK K
        (try simp only [Act.put, nA, nB, nC])
        refine wpAnyM_done (by kernel_rfl) ?_ _
        clear af ac
        go_wp2_with fail
        go_roundw
        case rel =>
          refine ⟨1, by omega, by go_num, Lib.hid ((HS.out.set 0 D).congr HK.out.symm fun i hi => ?_)⟩
          simp only [Go.Proofs.Ytanmddenleffaaa.upd, apK]
          by_cases h1 : i = 0
          · subst h1; rw [if_pos rfl, if_pos (by omega), HA.out]
          · rw [if_neg h1]
            by_cases h2 : i < 0
            · rw [if_pos h2, if_pos (by omega)]
            · rw [if_neg h2, if_neg (by omega)]
        case measure => simp [intOf]
      · have HK := Lib.hid (show (h || apHK M V 2) = (h || apHK M V 1 || dotH 30 (fun j => M (3 + j)) V 3) by simp [apHK, orB, Bool.or_assoc])
        have HA := Lib.hid (show apV M V 1 = dotV 30 (fun j => M (3 + j)) V 3 from rfl)
        obtain ⟨H, hH⟩ : ∃ x, (h || apHK M V 1) = x := ⟨_, rfl⟩
        rw [hH] at R HK
        have DC := Lib.hid (fun (x : World) (s : ApR c H M V (apK M V 1) w x) => dot_any c H 30 (fun j => M (3 + j)) V w.heap.size 3 6 (w.heap.size + 1) 0 3 3 x s.cell s.free (by decide) (by decide) (by decide) (fun i hi => s.m.cell (by omega)) (fun i hi => by rw [Nat.zero_add]; exact s.v.cell hi))
        obtain ⟨D, hD⟩ : ∃ x, dotV 30 (fun j => M (3 + j)) V 3 = x := ⟨_, rfl⟩
        rw [hD] at HA DC
        obtain ⟨H2, hH2⟩ : ∃ x, (H || dotH 30 (fun j => M (3 + j)) V 3) = x := ⟨_, rfl⟩
        rw [hH2] at HK DC
        clear hH hD hH2
        go_upto_region 5 with fail
        have HS := Lib.hid R.out.drew
        clear R
        refine wp_region_M (fun _ => True) 11 (by kernel_rfl) ?_ (fun hHeld => ?_)
        · trivial
        refine wpAnyM_take 0 (v := ?_) rfl (by kernel_rfl) (fun _ _ _ h => h) (Or.inl ⟨by rfl, ?_⟩) (by assumption) ?_
        rotate_left
        · (intro wx hSw; (try dsimp only at hSw); go_simp; (try with_reducible rfl))
        (try simp only [Act.put, nA, nB, nC])
        refine wpAnyM_take 1 (v := ?_) rfl (by kernel_rfl) (fun _ _ _ h => h) (Or.inl ⟨by rfl, ?_⟩) (by assumption) ?_
        rotate_left
        · (intro wx hSw; (try dsimp only at hSw); go_simp; (try with_reducible rfl))
        (try simp only [Act.put, nA, nB, nC])
        refine wpAnyM_take 2 (v := ?_) rfl (by kernel_rfl) (fun _ _ _ h => h) (Or.inl ⟨by rfl, ?_⟩) (by assumption) ?_
        rotate_left
        · (intro wx hSw; (try dsimp only at hSw); go_simp; (try with_reducible rfl))
        (try simp only [Act.put, nA, nB, nC])
        refine wpAnyM_take 3 (v := ?_) rfl (by kernel_rfl) (fun _ _ _ h => h) (Or.inl ⟨by rfl, ?_⟩) (by assumption) ?_
        rotate_left
        · (intro wx hSw; (try dsimp only at hSw); go_simp; (try with_reducible rfl))
        (try simp only [Act.put, nA, nB, nC])
        refine wpAnyM_take 4 (v := ?_) rfl (by kernel_rfl) (fun _ _ _ h => h) (Or.inl ⟨by rfl, ?_⟩) (by assumption) ?_
        rotate_left
        · (intro wx hSw; (try dsimp only at hSw); go_simp; (try with_reducible rfl))
        (try simp only [Act.put, nA, nB, nC])
        refine wpAnyM_take 5 (v := ?_) rfl (by kernel_rfl) (fun _ _ _ h => h) (Or.inl ⟨by rfl, ?_⟩) (by assumption) ?_
        rotate_left
        · (intro wx hSw; (try dsimp only at hSw); go_simp; (try with_reducible rfl))
        (try simp only [Act.put, nA, nB, nC])
        refine wpAnyM_take 6 (v := ?_) rfl (by kernel_rfl) (fun _ _ _ h => h) (Or.inl ⟨by rfl, ?_⟩) (by assumption) ?_
        rotate_left
        · (intro wx hSw; (try dsimp only at hSw); go_simp; (try with_reducible rfl))
        (try simp only [Act.put, nA, nB, nC])
        refine wpAnyM_take 7 (v := ?_) rfl (by kernel_rfl) (fun _ _ _ h => h) (Or.inl ⟨by rfl, ?_⟩) (by assumption) ?_
        rotate_left
        · (intro wx hSw; refine Eq.trans (run_slice_m9 (.tmp 4) (.tmp 15) (.tmp 18) (by rfl) w.heap.size (by rfl) 3 6 (by first | rfl | (simp; done)) (by first | rfl | (simp; done)) (by decide) (by decide) (by decide)) ?_; with_reducible rfl)
        (try simp only [Act.put, nA, nB, nC])
        refine wpAnyM_take 8 (v := ?_) rfl (by kernel_rfl) (fun _ _ _ h => h) (Or.inl ⟨by rfl, ?_⟩) (by assumption) ?_
        rotate_left
        · (intro wx hSw; (try dsimp only at hSw); go_simp; (try with_reducible rfl))
        (try simp only [Act.put, nA, nB, nC])
        refine wpAnyM_oneS 9 rfl (by kernel_rfl) (fun K hK => ?_)
        go_simp
        (refine (DC.out _ HS.out).mono ?_); rintro e w1 ⟨rfl, hu⟩; have HT := Lib.hid (HS.out.upd' hu); clear HS hu; have HS := HT; clear HT; have af := HS.out.o.free 1; have ac := HS.out.o.cell (i := 1) (by decide)
        (try dsimp only)
        (try simp only [Act.put, nA, nB, nC])
        clear hHeld
        refine hK.out _ _ ?_ (fun hHeld => ?_)
        · trivial
        clear hK K
        (try simp only [Act.put, nA, nB, nC])
        refine wpAnyM_take 10 (v := ?_) rfl (by kernel_rfl) (fun _ _ _ h => h) (Or.inl ⟨by rfl, ?_⟩) (by assumption) ?_
        rotate_left
        · (intro wx hSw; (try dsimp only at hSw); go_simp; (try with_reducible rfl))
        (try simp only [Act.put, nA, nB, nC])
        refine wpAnyM_one 11 rfl (by kernel_rfl) (fun K hK => ?_)
        go_simp
        refine hK.out _ _ (.inl (by kernel_rfl)) (fun _ => ?_)
        clear hK K
        (try simp only [Act.put, nA, nB, nC])
        refine wpAnyM_done (by kernel_rfl) ?_ _
        clear af ac
        go_wp2_with fail
        go_roundw
        case rel =>
          refine ⟨2, by omega, by go_num, Lib.hid ((HS.out.set 1 D).congr HK.out.symm fun i hi => ?_)⟩
          simp only [Go.Proofs.Ytanmddenleffaaa.upd, apK]
          by_cases h1 : i = 1
          · subst h1; rw [if_pos rfl, if_pos (by omega), HA.out]
          · rw [if_neg h1]
            by_cases h2 : i < 1
            · rw [if_pos h2, if_pos (by omega)]
            · rw [if_neg h2, if_neg (by omega)]
        case measure => simp [intOf]
      · have HK := Lib.hid (show (h || apHK M V 3) = (h || apHK M V 2 || dotH 30 (fun j => M (6 + j)) V 3) by simp [apHK, orB, Bool.or_assoc])
        have HA := Lib.hid (show apV M V 2 = dotV 30 (fun j => M (6 + j)) V 3 from rfl)
        obtain ⟨H, hH⟩ : ∃ x, (h || apHK M V 2) = x := ⟨_, rfl⟩
        rw [hH] at R HK
        have DC := Lib.hid (fun (x : World) (s : ApR c H M V (apK M V 2) w x) => dot_any c H 30 (fun j => M (6 + j)) V w.heap.size 6 3 (w.heap.size + 1) 0 3 3 x s.cell s.free (by decide) (by decide) (by decide) (fun i hi => s.m.cell (by omega)) (fun i hi => by rw [Nat.zero_add]; exact s.v.cell hi))
        obtain ⟨D, hD⟩ : ∃ x, dotV 30 (fun j => M (6 + j)) V 3 = x := ⟨_, rfl⟩
        rw [hD] at HA DC
        obtain ⟨H2, hH2⟩ : ∃ x, (H || dotH 30 (fun j => M (6 + j)) V 3) = x := ⟨_, rfl⟩
        rw [hH2] at HK DC
        clear hH hD hH2
        go_upto_region 5 with fail
        have HS := Lib.hid R.out.drew
        clear R
        refine wp_region_M (fun _ => True) 11 (by kernel_rfl) ?_ (fun hHeld => ?_)
        · trivial
        refine wpAnyM_take 0 (v := ?_) rfl (by kernel_rfl) (fun _ _ _ h => h) (Or.inl ⟨by rfl, ?_⟩) (by assumption) ?_
        rotate_left
        · (intro wx hSw; (try dsimp only at hSw); go_simp; (try with_reducible rfl))
        (try simp only [Act.put, nA, nB, nC])
        refine wpAnyM_take 1 (v := ?_) rfl (by kernel_rfl) (fun _ _ _ h => h) (Or.inl ⟨by rfl, ?_⟩) (by assumption) ?_
        rotate_left
        · (intro wx hSw; (try dsimp only at hSw); go_simp; (try with_reducible rfl))
        (try simp only [Act.put, nA, nB, nC])
        refine wpAnyM_take 2 (v := ?_) rfl (by kernel_rfl) (fun _ _ _ h => h) (Or.inl ⟨by rfl, ?_⟩) (by assumption) ?_
        rotate_left
        · (intro wx hSw; (try dsimp only at hSw); go_simp; (try with_reducible rfl))
        (try simp only [Act.put, nA, nB, nC])
        refine wpAnyM_take 3 (v := ?_) rfl (by kernel_rfl) (fun _ _ _ h => h) (Or.inl ⟨by rfl, ?_⟩) (by assumption) ?_
        rotate_left
        · (intro wx hSw; (try dsimp only at hSw); go_simp; (try with_reducible rfl))
        (try simp only [Act.put, nA, nB, nC])
        refine wpAnyM_take 4 (v := ?_) rfl (by kernel_rfl) (fun _ _ _ h => h) (Or.inl ⟨by rfl, ?_⟩) (by assumption) ?_
        rotate_left
        · (intro wx hSw; (try dsimp only at hSw); go_simp; (try with_reducible rfl))
        (try simp only [Act.put, nA, nB, nC])
        refine wpAnyM_take 5 (v := ?_) rfl (by kernel_rfl) (fun _ _ _ h => h) (Or.inl ⟨by rfl, ?_⟩) (by assumption) ?_
        rotate_left
        · (intro wx hSw; (try dsimp only at hSw); go_simp; (try with_reducible rfl))
        (try simp only [Act.put, nA, nB, nC])
        refine wpAnyM_take 6 (v := ?_) rfl (by kernel_rfl) (fun _ _ _ h => h) (Or.inl ⟨by rfl, ?_⟩) (by assumption) ?_
        rotate_left
        · (intro wx hSw; (try dsimp only at hSw); go_simp; (try with_reducible rfl))
        (try simp only [Act.put, nA, nB, nC])
        refine wpAnyM_take 7 (v := ?_) rfl (by kernel_rfl) (fun _ _ _ h => h) (Or.inl ⟨by rfl, ?_⟩) (by assumption) ?_
        rotate_left
        · (intro wx hSw; refine Eq.trans (run_slice_m9 (.tmp 4) (.tmp 15) (.tmp 18) (by rfl) w.heap.size (by rfl) 6 9 (by first | rfl | (simp; done)) (by first | rfl | (simp; done)) (by decide) (by decide) (by decide)) ?_; with_reducible rfl)
        (try simp only [Act.put, nA, nB, nC])
        refine wpAnyM_take 8 (v := ?_) rfl (by kernel_rfl) (fun _ _ _ h => h) (Or.inl ⟨by rfl, ?_⟩) (by assumption) ?_
        rotate_left
        · (intro wx hSw; (try dsimp only at hSw); go_simp; (try with_reducible rfl))
        (try simp only [Act.put, nA, nB, nC])
        refine wpAnyM_oneS 9 rfl (by kernel_rfl) (fun K hK => ?_)
        go_simp
        (refine (DC.out _ HS.out).mono ?_); rintro e w1 ⟨rfl, hu⟩; have HT := Lib.hid (HS.out.upd' hu); clear HS hu; have HS := HT; clear HT; have af := HS.out.o.free 2; have ac := HS.out.o.cell (i := 2) (by decide)
        (try dsimp only)
        (try simp only [Act.put, nA, nB, nC])
        clear hHeld
        refine hK.out _ _ ?_ (fun hHeld => ?_)
        · trivial
        clear hK K
        (try simp only [Act.put, nA, nB, nC])
        refine wpAnyM_take 10 (v := ?_) rfl (by kernel_rfl) (fun _ _ _ h => h) (Or.inl ⟨by rfl, ?_⟩) (by assumption) ?_
        rotate_left
        · (intro wx hSw; (try dsimp only at hSw); go_simp; (try with_reducible rfl))
        (try simp only [Act.put, nA, nB, nC])
        refine wpAnyM_one 11 rfl (by kernel_rfl) (fun K hK => ?_)
        go_simp
        refine hK.out _ _ (.inl (by kernel_rfl)) (fun _ => ?_)
        clear hK K
        (try simp only [Act.put, nA, nB, nC])
        refine wpAnyM_done (by kernel_rfl) ?_ _
        clear af ac
        go_wp2_with fail
        go_roundw
        case rel =>
          refine ⟨3, by omega, by go_num, Lib.hid ((HS.out.set 2 D).congr HK.out.symm fun i hi => ?_)⟩
          simp only [Go.Proofs.Ytanmddenleffaaa.upd, apK]
          by_cases h1 : i = 2
          · subst h1; rw [if_pos rfl, if_pos (by omega), HA.out]
          · rw [if_neg h1]
            by_cases h2 : i < 2
            · rw [if_pos h2, if_pos (by omega)]
            · rw [if_neg h2, if_neg (by omega)]
        case measure => simp [intOf]
    · have hk3 : k = 3 := by omega
      subst hk3
      have HE := Lib.hid (show apHK M V 3 = apH M V from rfl)
      have R2 := R.out.congr rfl (G := apV M V) fun i hi => by simp only [apK]; rw [if_pos hi]
      rw [HE.out] at R2
      have U := Lib.hid R2.upd
      have B0 := R2.o
      have B1 := R2.r
      clear R R2
      rw [show ((3 : Nat) : Int) = 3 from rfl]
      go_wp2_with (first | (refine wpList_load_row rfl 41 _ rfl (w.heap.size + 1 + 1 + 1) rfl 41 _ (0, 0) _ (B0) Try.underlying41 rfl (iv3.trans (by rw [arrv_size])) ?_) | (refine wpList_store_row rfl 41 _ _ rfl (w.heap.size + 1 + 1) _ rfl rfl 41 _ (B1) (iv3.trans (by rw [arrv_size])) (by rw [arrv_size, arrv_size]) (oneCell_arrv _ _) ?_))
      refine bodyPost_ret (results_cell_row Try.results14 _ _ (w.heap.size + 1 + 1) 41 (arrv 3 (apV M V)) (0, 0) _ rfl (setRow_heap _ _ _ _ _ _ B1) Try.underlying41 rfl (iv3.trans (by rw [arrv_size]))) rfl ⟨rfl, ?_⟩
      exact U.out.then' (below_row (Below.refl _ _) (by omega) _)
end Go.Proofs.Ytanmddenleffaaa
namespace Go.Proofs.Ytanmddenleffaaa
theorem satV_sb {x : Int} (h : SB x) : satV x = x := satV_id h.1 h.2
theorem satH_sb {x : Int} (h : SB x) : satH x = false := satH_no h.1 h.2
theorem rsh_err (x : Int) : -1073741824 ≤ 2 * (1073741824 * rsh x 30 - x) ∧ 2 * (1073741824 * rsh x 30 - x) ≤ 1073741824 := by
  have h2 : ((2 : Int) ^ 30) = 1073741824 := by decide
  unfold rsh; rw [h2]
  exact rdiv_err (by decide)
theorem mulV_of {a b : Int} (ha : SB a) (hb : SB b) (h : SB (rsh (a * b) 30)) : mulV a b 30 = rsh (a * b) 30 ∧ mulH a b 30 = false := by
  unfold mulV mulH
  rw [if_neg (by decide), satV_sb ha, satV_sb hb, show (30 : Int).toNat = 30 from rfl, satV_sb h, satH_sb ha, satH_sb hb, satH_sb h]
  exact ⟨rfl, by decide⟩
end Go.Proofs.Ytanmddenleffaaa
namespace Go.Proofs.Ytanmddenleffaaa
section
variable {W e : Nat → Int} (hW : ∀ x, x < 1152 → W x = idW x) (he : ∀ k, k < 48 → 0 ≤ e k ∧ e k ≤ 72057594037927936)
variable (hs : ∀ j, j < 24 → 1 ≤ e j + e (24 + j) ∧ e j + e (24 + j) ≤ 72057594037927936)
end
theorem qV_id {a : Int} (h : 0 ≤ a) (h' : a ≤ 72057594037927936) : qV a = a ∧ qH a = false := by
  constructor
  · unfold qV clampV; rw [if_neg (by omega), if_neg (by omega), if_neg (by omega)]
  · unfold qH clampH; simp; omega
end Go.Proofs.Ytanmddenleffaaa
namespace Go.Proofs.Ytanmddenleffaaa
open Go.ChangeShapes Go.WideShapes Go.ChangeAt Go.RowKit
section
variable {H : Type} {enc : TypeId × Value → H} {w : World} {base : Nat} {spare : Nat → Bool} {held : Bool}
set_option maxRecDepth 100000 in
theorem cells_v3 : Try.prog.cellsOf 41 = 3 := cells_of_size (by kernel_rfl)
set_option maxRecDepth 100000 in
theorem ints_v3 : Ints enc Try.prog w base spare held 41 := ints_array (n := 3) (m := 1) Try.underlying41 cells_v3 cells_i64 ints_i64
set_option maxRecDepth 100000 in
theorem cells_qt : Try.prog.cellsOf 40 = 4 := cells_of_size (by kernel_rfl)
set_option maxRecDepth 100000 in
theorem ints_qt : Ints enc Try.prog w base spare held 40 := ints_array (n := 4) (m := 1) Try.underlying40 cells_qt cells_i64 ints_i64
set_option maxRecDepth 100000 in
theorem cells_a4 : Try.prog.cellsOf 39 = 4 := cells_of_size (by kernel_rfl)
set_option maxRecDepth 100000 in
theorem ints_a4 : Ints enc Try.prog w base spare held 39 := ints_array (n := 4) (m := 1) Try.underlying39 cells_a4 cells_i64 ints_i64
end
end Go.Proofs.Ytanmddenleffaaa
