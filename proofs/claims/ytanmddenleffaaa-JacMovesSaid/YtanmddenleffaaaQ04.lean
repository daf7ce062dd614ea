/- Contracts of the program's functions and plain laws, part 4: they hold for all arguments. -/
import Derived.Test.YtanmddenleffaaaQ03
import Derived.Test.YtanmddenleffaaaProg
import Derived.WalkKit
import Derived.WalkSpells
import Derived.WalkLawsBesides
import Derived.KernelRfl
import Derived.Laws.Tables
import Derived.Deep.WholeRow
/- thornton.Step's numbers: one elimination, and all of them. No program. -/
namespace Go.Proofs.Ytanmddenleffaaa
def upd (f : Nat → Int) (j : Nat) (v : Int) : Nat → Int := fun i => if i = j then v else f i
/-- Is one of the first n so? -/
def orB (p : Nat → Bool) : Nat → Bool | 0 => false | n + 1 => orB p n || p n
def varV (a : Int) : Int := clampV a 1 72057594037927936
def varH (a : Int) : Bool := clampH a 1 72057594037927936
def subV (a b : Int) : Int := satV (satV a - satV b)
def subH (a b : Int) : Bool := satH a || satH b || satH (satV a - satV b)
/-- Row i of a matrix of n columns. -/
def rowF (n : Nat) (F : Nat → Int) (i : Nat) : Nat → Int := fun m => F (i * n + m)
/-- Where U's number of row i and column j stands. -/
def pl (i j : Nat) : Nat := j * (j - 1) / 2 + i
/-- One elimination, row j. -/
def stY (W e : Nat → Int) (j : Nat) : Nat → Int := fun k => mulV (W (j * 48 + k)) (e k) 30
def stD (W e : Nat → Int) (j : Nat) : Int := varV (dotV 30 (rowF 48 W j) (stY W e j) 48)
def stU (W e : Nat → Int) (j i : Nat) : Int := divV (dotV 30 (rowF 48 W i) (stY W e j) 48) (stD W e j) 30
def elV (W : Nat → Int) (u : Int) (j i k : Nat) : Int := subV (W (i * 48 + k)) (mulV u (W (j * 48 + k)) 30)
def elB (W : Nat → Int) (u : Int) (j i k : Nat) : Bool := mulH u (W (j * 48 + k)) 30 || subH (W (i * 48 + k)) (mulV u (W (j * 48 + k)) 30)
/-- m rows are done, and of row m the first kk numbers. -/
def elW (W e : Nat → Int) (j m kk : Nat) : Nat → Int := fun x => if x / 48 < m ∨ (x / 48 = m ∧ x % 48 < kk) then elV W (stU W e j (x / 48)) j (x / 48) (x % 48) else W x
def outI (O W e : Nat → Int) (j : Nat) : Nat → Nat → Int | 0 => upd O (276 + j) (stD W e j) | m + 1 => upd (outI O W e j m) (pl m j) (stU W e j m)
def yB (W e : Nat → Int) (j k : Nat) : Bool := mulH (W (j * 48 + k)) (e k) 30
def dB (W e : Nat → Int) (j : Nat) : Bool := dotH 30 (rowF 48 W j) (stY W e j) 48 || varH (dotV 30 (rowF 48 W j) (stY W e j) 48)
def uB (W e : Nat → Int) (j i : Nat) : Bool := dotH 30 (rowF 48 W i) (stY W e j) 48 || divH (dotV 30 (rowF 48 W i) (stY W e j) 48) (stD W e j) 30
def rowB (W e : Nat → Int) (j i : Nat) : Bool := uB W e j i || orB (elB W (stU W e j i) j i) 48
def stageH (W e : Nat → Int) (j : Nat) : Bool := orB (yB W e j) 48 || dB W e j || orB (rowB W e j) j
/-- n eliminations are done: of rows 23, 22, .. -/
def WN (W e : Nat → Int) : Nat → Nat → Int | 0 => W | n + 1 => elW (WN W e n) e (23 - n) (23 - n) 0
def ON (W e : Nat → Int) : Nat → Nat → Int | 0 => fun _ => 0 | n + 1 => outI (ON W e n) (WN W e n) e (23 - n) (23 - n)
def HN (W e : Nat → Int) : Nat → Bool | 0 => false | n + 1 => HN W e n || stageH (WN W e n) e (23 - n)
def addV (a b : Int) : Int := satV (satV a + satV b)
def addH (a b : Int) : Bool := satH a || satH b || satH (satV a + satV b)
def two (x y : Int) : Nat → Int := fun i => if i = 0 then x else y
theorem add2 (x y : Int) (h : Bool) : satV (sumS (two x y) 2) = addV x y ∧ (h || sumB (two x y) 2 || satH (sumS (two x y) 2)) = (h || addH x y) := by
  have e : sumS (two x y) 2 = satV x + satV y := by simp [sumS, two]
  rw [e]
  refine ⟨rfl, ?_⟩
  simp [sumB, two, addH, Bool.or_assoc]
end Go.Proofs.Ytanmddenleffaaa
/- The great noughts by name, where the program's own form does not name them. -/
namespace Go.Proofs.Ytanmddenleffaaa
open Go
end Go.Proofs.Ytanmddenleffaaa
/- Arrays of int64 as functions: the cells of a block; small laws. -/
namespace Go.Proofs.Ytanmddenleffaaa
open Go.RowKit
/-- n numbers, as cells. -/
def arrv (n : Nat) (f : Nat → Int) : Array Value := Array.ofFn (n := n) fun i => .int .i64 (f i)
theorem arrv_size (n : Nat) (f : Nat → Int) : (arrv n f).size = n := by simp [arrv]
theorem arrv_get {n : Nat} {f : Nat → Int} {i : Nat} (h : i < n) : (arrv n f)[i]? = some (.int .i64 (f i)) := by simp [arrv, h]
theorem arrv_set (n : Nat) (f : Nat → Int) (j : Nat) (v : Int) : (arrv n f).setIfInBounds j (.int .i64 v) = arrv n (upd f j v) := by
  apply Array.ext_getElem?
  intro i
  rw [Array.getElem?_setIfInBounds]
  by_cases hi : i < n
  · rw [arrv_get hi]
    by_cases hj : j = i
    · subst hj; rw [if_pos rfl, arrv_get hi, arrv_size, if_pos hi]; simp [upd]
    · rw [if_neg hj, arrv_get hi]; simp [upd, show ¬ i = j by omega]
  · rw [Array.getElem?_eq_none (by rw [arrv_size]; omega)]
    rw [Array.getElem?_eq_none (xs := arrv n (upd f j v)) (by rw [arrv_size]; omega)]
    split
    · rw [arrv_size, if_neg (by omega)]
    · rfl
theorem arrv_congr {n : Nat} {f g : Nat → Int} (h : ∀ i, i < n → f i = g i) : arrv n f = arrv n g := by
  apply Array.ext_getElem?
  intro i
  by_cases hi : i < n
  · rw [arrv_get hi, arrv_get hi, h i hi]
  · rw [Array.getElem?_eq_none (by rw [arrv_size]; omega), Array.getElem?_eq_none (by rw [arrv_size]; omega)]
/-- Block b holds the numbers f. -/
def Blk (w : World) (b : Nat) (T : TypeId) (n : Nat) (f : Nat → Int) : Prop := w.heap[b]? = some (.cells (arrv n f) T (0, 0))
theorem Blk.cell {w : World} {b T n : Nat} {f : Nat → Int} (h : Blk w b T n f) {i : Nat} (hi : i < n) : w.cell? ⟨b, i, none⟩ = some (.int .i64 (f i)) := by
  rw [cell_of_row w b i _ _ _ h, arrv_get hi]
theorem Blk.free {w : World} {b T n : Nat} {f : Nat → Int} (h : Blk w b T n f) (i : Nat) : w.frozen? ⟨b, i, none⟩ = false := frozen_of_row w b i _ _ h
theorem Blk.lt {w : World} {b T n : Nat} {f : Nat → Int} (h : Blk w b T n f) : b < w.heap.size := by
  rcases Nat.lt_or_ge b w.heap.size with h' | h'
  · exact h'
  · unfold Blk at h; rw [Array.getElem?_eq_none h'] at h; cases h
theorem Blk.set {w : World} {b T n : Nat} {f : Nat → Int} (h : Blk w b T n f) (j : Nat) (v : Int) : Blk (w.setCell ⟨b, j, none⟩ (.int .i64 v)) b T n (upd f j v) := by
  have := heap_setCell_same w b j _ _ (.int .i64 v) h
  unfold Blk
  rw [this, arrv_set]
theorem Blk.other {w : World} {b T n : Nat} {f : Nat → Int} (h : Blk w b T n f) {a : Addr} (ha : b ≠ a.block) (v : Value) : Blk (w.setCell a v) b T n f :=
  (heap_setCell_other w a b v ha).trans h
theorem Blk.alloc {w : World} {b T n : Nat} {f : Nat → Int} (h : Blk w b T n f) (o : Obj) : Blk (w.alloc o) b T n f := ((Below.refl w.heap.size w).alloc (Nat.le_refl _) o).block b h.lt |>.trans h
theorem Blk.drew {w : World} {b T n : Nat} {f : Nat → Int} (h : Blk w b T n f) : Blk w.drew b T n f := h
theorem Blk.below {w w' : World} {b T n : Nat} {f : Nat → Int} (h : Blk w b T n f) (hb : Below w.heap.size w w') : Blk w' b T n f := (hb.block b h.lt).trans h
theorem Blk.upd {w w' : World} {b T n : Nat} {f : Nat → Int} (h : Blk w b T n f) {c : Addr} {v : Bool} (u : Upd c v w w') (hn : b ≠ c.block) : Blk w' b T n f := (u.block h.lt hn).trans h
theorem Blk.new (w : World) (T n : Nat) (f : Nat → Int) : Blk (w.alloc (.cells (arrv n f) T)) w.heap.size T n f := heap_alloc_new w _
theorem Blk.new1 (w : World) (o : Obj) (T n : Nat) (f : Nat → Int) : Blk ((w.alloc o).alloc (.cells (arrv n f) T)) (w.heap.size + 1) T n f := by
  have h := Blk.new (w.alloc o) T n f
  rwa [show (w.alloc o).heap.size = w.heap.size + 1 from by simp] at h
theorem blk_new2 (w : World) (o o2 : Obj) (T n : Nat) (f : Nat → Int) : Blk (((w.alloc o).alloc o2).alloc (.cells (arrv n f) T)) (w.heap.size + 1 + 1) T n f := by
  have h := Blk.new1 (w.alloc o) o2 T n f
  rwa [show (w.alloc o).heap.size = w.heap.size + 1 from by simp] at h
theorem blk_new3 (w : World) (o o2 o3 : Obj) (T n : Nat) (f : Nat → Int) : Blk ((((w.alloc o).alloc o2).alloc o3).alloc (.cells (arrv n f) T)) (w.heap.size + 1 + 1 + 1) T n f := by
  have h := blk_new2 (w.alloc o) o2 o3 T n f
  rwa [show (w.alloc o).heap.size = w.heap.size + 1 from by simp] at h
theorem Blk.congr {w : World} {b T n : Nat} {f g : Nat → Int} (h : Blk w b T n f) (e : ∀ i, i < n → f i = g i) : Blk w b T n g := by unfold Blk at *; rw [h, arrv_congr e]
theorem Blk.setRow {w : World} {b T n : Nat} {f : Nat → Int} (h : Blk w b T n f) (g : Nat → Int) : Blk (w.setRow b (arrv n g)) b T n g := setRow_heap w b _ _ T _ h
theorem Blk.setRow_other {w : World} {b T n k : Nat} {f : Nat → Int} (h : Blk w b T n f) (cs : Array Value) (hk : b ≠ k) : Blk (w.setRow k cs) b T n f := (Go.setRow_other w k b cs hk).trans h
/-- A flag's cell is in no block of numbers. -/
theorem Blk.flag {w : World} {b T n : Nat} {f : Nat → Int} (h : Blk w b T n f) {c : Addr} {v : Bool} (hc : w.cell? c = some (.bool v)) : b ≠ c.block := by
  intro e
  unfold World.cell? at hc
  rw [← e, h] at hc
  simp only at hc
  split at hc
  · cases hc
  · by_cases hi : c.off < n
    · rw [arrv_get hi] at hc; cases hc
    · rw [Array.getElem?_eq_none (by rw [arrv_size]; omega)] at hc; cases hc
theorem below_row {B g : Nat} {w0 w : World} (hb : Below B w0 w) (hBg : B ≤ g) (cs : Array Value) : Below B w0 (w.setRow g cs) :=
  hb.trans ⟨rfl, rfl, rfl, by simp, fun k hk => Go.setRow_other w g k cs (by omega)⟩
theorem oneCell_arrv (n : Nat) (f : Nat → Int) : (arrv n f).all (·.oneCell') = true := by
  rw [Array.all_eq_true]
  intro i hi
  simp [arrv, Value.oneCell']
end Go.Proofs.Ytanmddenleffaaa
/- Contract of tri.Condition. -/
namespace Go.Proofs.Ytanmddenleffaaa
open Go.RowKit
set_option maxRecDepth 100000
theorem variance_any (c : Addr) (h : Bool) (a : Int) (w : World) (hc : w.cell? c = some (.bool h)) (hf : w.frozen? c = false) :
    Calls Try.prog 50 #[.pointer (some c), .int .i64 a] w fun e w' => e = .returned (.int .i64 (clampV a 1 72057594037927936)) ∧ w.setCell c (.bool (h || clampH a 1 72057594037927936)) = w' := by
  go_enter Try.func50, Try.ntmps50
  go_wp2_with (go_at_call 28; refine (clamp_any c h a _ _ _ hc hf).mono ?_; rintro e w' ⟨rfl, rfl⟩)
  go_ret
  exact ⟨rfl, rfl⟩
/-- A covariance as 300 numbers: U's first, then D's. -/
def condF (f : Nat → Int) : Nat → Int := fun i => if i < 276 then satV (f i) else varV (f i)
def condH (f : Nat → Int) : Bool := orB (fun i => varH (f (276 + i))) 24 || orB (fun i => satH (f i)) 276
def condD (f : Nat → Int) (k : Nat) : Nat → Int := fun i => if 276 ≤ i ∧ i < 276 + k then varV (f i) else f i
def condU (f : Nat → Int) (k : Nat) : Nat → Int := fun i => if i < k then satV (f i) else if 276 ≤ i then varV (f i) else f i
structure CondR (c : Addr) (h : Bool) (g : Nat → Int) (w wr : World) : Prop where
  upd : Upd c h w wr
  blk : Blk wr w.heap.size 59 300 g
  res : Blk wr (w.heap.size + 1) 59 300 (fun _ => 0)
theorem zcov : Try.zeroCells59 = arrv 300 (fun _ => 0) := by kernel_rfl
theorem icov : (Try.prog.info? 59).map (·.size) = some 300 := by kernel_rfl
theorem cond_any (c : Addr) (h : Bool) (f : Nat → Int) (w : World) (hc : w.cell? c = some (.bool h)) (hf : w.frozen? c = false) :
    Calls Try.prog 51 #[.pointer (some c), .agg (arrv 300 f)] w fun e w' => e = .returned (.agg (arrv 300 (condF f))) ∧ Upd c (h || condH f) w w' := by
  have hcb := World.block_lt_of_cell? w c hc
  have HC := Lib.hid hc
  have HF := Lib.hid hf
  clear hc hf
  go_enter Try.func51, Try.ntmps51
  go_wp2_with fail
  go_loopw [7] (fun i wr => ∃ k : Nat, k ≤ 24 ∧ i = .int .i64 k ∧ Hid (CondR c (h || orB (fun i => varH (f (276 + i))) k) (condD f k) w wr)) (fun i _ => 24 - (intOf i).toNat)
  case atStart =>
    refine ⟨0, by omega, rfl, ⟨?_, ?_, ?_⟩⟩
    · rw [show (h || orB (fun i => varH (f (276 + i))) 0) = h from by simp [orB]]
      exact Upd.then (Upd.refl HC.out) (by (repeat (first | with_reducible exact Below.refl _ _ | with_reducible apply Below.drew | (with_reducible refine below_drewN ?_ _) | (with_reducible refine Below.alloc ?_ (by (try simp) <;> omega) _) | (with_reducible refine Below.setCell ?_ (by (try simp) <;> omega) _))))
    · exact (Blk.alloc (Blk.new w _ 300 f) _).congr fun i hi => by simp [condD]; omega
    · rw [zcov]; exact Blk.new1 w _ _ 300 _
  case round =>
    obtain ⟨k, hk, rfl, R⟩ := hrel
    by_cases hlt : k < 24
    · have rc := R.out.upd.cellc HC.out
      have rf := (R.out.upd.frozen hcb).trans HF.out
      have b0 := R.out.blk.cell (i := 276 + k) (by omega)
      have b1 := R.out.blk.free (276 + k)
      have n0 := ne_of_cells rc b0
      have hv : condD f k (276 + k) = f (276 + k) := by simp [condD]
      rw [hv] at b0
      clear hv
      go_wp2_with (go_at_call 50; refine (variance_any c _ _ _ rc rf).mono ?_; rintro e w' ⟨rfl, rfl⟩)
      go_roundw
      case rel =>
        refine ⟨k + 1, by omega, by go_num, ⟨?_, ?_, ?_⟩⟩
        · rw [show (h || orB (fun i => varH (f (276 + i))) (k + 1)) = (h || orB (fun i => varH (f (276 + i))) k || clampH (f (276 + k)) 1 72057594037927936) from by simp [orB, varH, Bool.or_assoc]]
          exact (R.out.upd.trans (Upd.set c _ _)).setCell (Nat.le_refl _) _
        · refine ((R.out.blk.other (R.out.blk.flag rc) _).set _ _).congr fun i hi => ?_
          simp only [Go.Proofs.Ytanmddenleffaaa.upd, condD, varV]
          by_cases h1 : i = 276 + k
          · subst h1; simp
          · rw [if_neg h1]; split <;> split <;> first | rfl | omega
        · exact (R.out.res.other (R.out.res.flag rc) _).other (by simp) _
      case measure => simp [intOf]; omega
    · have hk24 : k = 24 := by omega
      subst hk24
      have HR := R
      clear R hlt hk
      rw [show ((24 : Nat) : Int) = 24 from rfl]
      go_wp2_with fail
      go_loopw [20] (fun i wr => ∃ k : Nat, k ≤ 276 ∧ i = .int .i64 k ∧ Hid (CondR c (h || orB (fun i => varH (f (276 + i))) 24 || orB (fun i => satH (f i)) k) (condU f k) w wr)) (fun i _ => 276 - (intOf i).toNat)
      case atStart =>
        refine ⟨0, by omega, rfl, ⟨?_, HR.out.blk.congr fun i hi => by simp [condD, condU]; split <;> split <;> first | rfl | omega, HR.out.res⟩⟩
        rw [show (h || orB (fun i => varH (f (276 + i))) 24 || orB (fun i => satH (f i)) 0) = (h || orB (fun i => varH (f (276 + i))) 24) from by simp [orB]]
        exact HR.out.upd
      case round =>
        obtain ⟨k, hk, rfl, R⟩ := hrel
        by_cases hlt : k < 276
        · have rc := R.out.upd.cellc HC.out
          have rf := (R.out.upd.frozen hcb).trans HF.out
          have b0 := R.out.blk.cell (i := k) (by omega)
          have b1 := R.out.blk.free k
          have n0 := ne_of_cells rc b0
          have hv : condU f k k = f k := by simp [condU]; omega
          rw [hv] at b0
          clear hv
          go_wp2_with (go_at_call 28; refine (clamp_any c _ _ _ _ _ rc rf).mono ?_; rintro e w' ⟨rfl, rfl⟩)
          go_roundw
          case rel =>
            refine ⟨k + 1, by omega, by go_num, ⟨?_, ?_, ?_⟩⟩
            · rw [show (h || orB (fun i => varH (f (276 + i))) 24 || orB (fun i => satH (f i)) (k + 1)) = (h || orB (fun i => varH (f (276 + i))) 24 || orB (fun i => satH (f i)) k || clampH (f k) (-1152921504606846976) 1152921504606846976) from by simp [orB, satH, Bool.or_assoc]]
              exact (R.out.upd.trans (Upd.set c _ _)).setCell (Nat.le_refl _) _
            · refine ((R.out.blk.other (R.out.blk.flag rc) _).set _ _).congr fun i hi => ?_
              simp only [Go.Proofs.Ytanmddenleffaaa.upd, condU, satV]
              by_cases h1 : i = k
              · subst h1; simp
              · rw [if_neg h1]; repeat' split
                all_goals first | rfl | omega
            · exact (R.out.res.other (R.out.res.flag rc) _).other (by simp) _
          case measure => simp [intOf]; omega
        · have hk276 : k = 276 := by omega
          subst hk276
          have B0 := R.out.blk
          have B1 := R.out.res
          have U := Lib.hid R.out.upd
          have hl := B1.lt
          clear R hlt hk HR
          go_wp2_with (first | (refine wpList_load_row rfl 59 _ rfl w.heap.size rfl 59 _ (0, 0) _ B0 Try.underlying59 rfl (icov.trans (by rw [arrv_size])) ?_) | (refine wpList_store_row rfl 59 _ _ rfl (w.heap.size + 1) _ rfl rfl 59 _ B1 (icov.trans (by rw [arrv_size])) (by rw [arrv_size, arrv_size]) (oneCell_arrv _ _) ?_))
          refine bodyPost_ret (results_cell_row Try.results51 _ _ (w.heap.size + 1) 59 (arrv 300 (condU f 276)) (0, 0) _ rfl (setRow_heap _ _ _ _ _ _ B1) Try.underlying59 rfl (icov.trans (by rw [arrv_size]))) rfl ⟨?_, ?_⟩
          · rw [arrv_congr (g := condF f) fun i hi => ?_]
            simp only [condU, condF]
            by_cases h1 : i < 276
            · simp [h1]
            · rw [if_neg h1, if_neg h1, if_pos (by omega)]
          · rw [show (h || condH f) = (h || orB (fun i => varH (f (276 + i))) 24 || orB (fun i => satH (f i)) 276) from by simp [condH, Bool.or_assoc]]
            exact U.out.then' (below_row (Below.refl _ _) (by omega) _)
end Go.Proofs.Ytanmddenleffaaa
/- Contracts of package tri (2): Good, place, U, Set. -/
namespace Go.Proofs.Ytanmddenleffaaa
open Go.RowKit
set_option maxRecDepth 100000
theorem good_any (f : Nat → Int) (w : World) :
    Calls Try.prog 24 #[.agg (arrv 300 f)] w fun e w' => e = .returned (.bool (!condH f)) ∧ Below w.heap.size w w' := by
  go_enter Try.func24, Try.ntmps24
  have B0 := (Blk.new w 59 300 f).alloc (.cells #[.bool false] 25)
  go_wp2_with (first | (refine wpList_load_row rfl 59 _ rfl w.heap.size rfl 59 _ (0, 0) _ B0 Try.underlying59 rfl (icov.trans (by rw [arrv_size])) ?_) | (go_at_call 51; refine (cond_any ⟨w.heap.size + 1, 0, none⟩ false f _ (by simp) (by simp)).mono ?_; rintro e w1 ⟨rfl, hu1⟩; have k1 := hu1.cellc (h0 := false) (by simp)))
  go_ret
  refine ⟨by simp, ?_⟩
  exact Below.trans (by (repeat (first | with_reducible exact Below.refl _ _ | with_reducible apply Below.drew | (with_reducible refine below_drewN ?_ _) | (with_reducible refine Below.alloc ?_ (by (try simp) <;> omega) _) | (with_reducible refine Below.setCell ?_ (by (try simp) <;> omega) _)))) (Below.mono hu1 (by simp; omega))
theorem pl_lt {i j : Nat} (h : i < j) (hj : j < 24) : pl i j < 276 := by
  unfold pl
  have : j * (j - 1) ≤ 23 * 22 := Nat.mul_le_mul (by omega) (by omega)
  omega
theorem pl_cast (i j : Nat) : ((pl i j : Nat) : Int) = (j : Int) * ((j - 1 : Nat) : Int) / 2 + (i : Int) := by
  unfold pl
  rw [← Int.natCast_mul]
  omega
theorem place_any (i j : Nat) (w : World) (_hi : i < 24) (hj : j < 24) :
    Calls Try.prog 87 #[.int .i64 i, .int .i64 j] w fun e w' => e = .returned (.tuple #[.int .i64 (pl i j : Nat), .bool (decide (i < j))]) ∧ w = w' := by
  have hmul : (j : Int) * ((j : Int) - 1) = ((j * (j - 1) : Nat) : Int) := by
    cases j with
    | zero => simp
    | succ n => rw [Int.natCast_mul, show ((n + 1 : Nat) : Int) - 1 = ((n + 1 - 1 : Nat) : Int) from by omega]
  have hb : j * (j - 1) ≤ 23 * 22 := Nat.mul_le_mul (by omega) (by omega)
  have hc := pl_cast i j
  have HC := Lib.hid hc
  clear hc
  by_cases h : i < j
  · have hd : decide (i < j) = true := by simpa using h
    rw [hd]
    clear hd
    go_enter Try.func87, Try.ntmps87
    go_wp2
    go_ret2
    refine ⟨?_, rfl⟩
    rw [HC.out]
    simp only [hj, decide_true, Int.ofNat_lt, and_self]
    first | rfl | (simp; omega) | simp
  · have hd : decide (i < j) = false := by simpa using h
    rw [hd]
    go_enter Try.func87, Try.ntmps87
    go_wp2
    go_ret2
    refine ⟨?_, rfl⟩
    rw [HC.out]
    first | rfl | (simp; done) | (simp; omega)
/-- U's number of row i and column j. -/
def uV (f : Nat → Int) (i j : Nat) : Int := if i = j then 1073741824 else if i < j then f (pl i j) else 0
theorem u_any (f : Nat → Int) (i j : Nat) (w : World) (hi : i < 24) (hj : j < 24) :
    Calls Try.prog 86 #[.agg (arrv 300 f), .int .i64 i, .int .i64 j] w fun e w' => e = .returned (.int .i64 (uV f i j)) ∧ Below w.heap.size w w' := by
  by_cases h : i = j
  · subst h
    rw [show uV f i i = 1073741824 from by simp [uV]]
    go_enter Try.func86, Try.ntmps86
    go_wp2
    go_ret
    exact ⟨rfl, by (repeat (first | with_reducible exact Below.refl _ _ | with_reducible apply Below.drew | (with_reducible refine below_drewN ?_ _) | (with_reducible refine Below.alloc ?_ (by (try simp) <;> omega) _) | (with_reducible refine Below.setCell ?_ (by (try simp) <;> omega) _)))⟩
  · have hne : ((i : Int) == (j : Int)) = false := by simp; omega
    by_cases h1 : i < j
    · have hp := pl_lt h1 hj
      have ev : uV f i j = f (pl i j) := by simp [uV, h, h1]
      obtain ⟨p, hpp⟩ : ∃ p, pl i j = p := ⟨_, rfl⟩
      have PC := Lib.hid (place_any i j)
      rw [hpp] at hp ev PC
      rw [ev, show decide (i < j) = true from by simpa using h1] at *
      have b0 := (Blk.new w 59 300 f).cell (i := p) (by omega)
      clear h hpp ev
      go_enter Try.func86, Try.ntmps86
      go_wp2_with (go_at_call 87; refine (PC.out _ hi hj).mono ?_; rintro e w' ⟨rfl, rfl⟩)
      go_ret
      exact ⟨rfl, by (repeat (first | with_reducible exact Below.refl _ _ | with_reducible apply Below.drew | (with_reducible refine below_drewN ?_ _) | (with_reducible refine Below.alloc ?_ (by (try simp) <;> omega) _) | (with_reducible refine Below.setCell ?_ (by (try simp) <;> omega) _)))⟩
    · have ev : uV f i j = 0 := by simp [uV, h, h1]
      have PC := Lib.hid (place_any i j)
      rw [ev]
      rw [show decide (i < j) = false from by simpa using h1] at PC
      clear h ev
      go_enter Try.func86, Try.ntmps86
      go_wp2_with (go_at_call 87; refine (PC.out _ hi hj).mono ?_; rintro e w' ⟨rfl, rfl⟩)
      go_ret
      exact ⟨rfl, by (repeat (first | with_reducible exact Below.refl _ _ | with_reducible apply Below.drew | (with_reducible refine below_drewN ?_ _) | (with_reducible refine Below.alloc ?_ (by (try simp) <;> omega) _) | (with_reducible refine Below.setCell ?_ (by (try simp) <;> omega) _)))⟩
theorem set_any (f : Nat → Int) (i j : Nat) (v : Int) (w : World) (h1 : i < j) (hj : j < 24) :
    Calls Try.prog 72 #[.agg (arrv 300 f), .int .i64 i, .int .i64 j, .int .i64 v] w fun e w' => e = .returned (.agg (arrv 300 (upd f (pl i j) v))) ∧ Below w.heap.size w w' := by
  have hp := pl_lt h1 hj
  have hi : i < 24 := by omega
  obtain ⟨p, hpp⟩ : ∃ p, pl i j = p := ⟨_, rfl⟩
  have pc : ∀ w, Calls Try.prog 87 #[.int .i64 i, .int .i64 j] w fun e w' => e = .returned (.tuple #[.int .i64 p, .bool true]) ∧ w = w' := fun w => by
    have := place_any i j w hi hj
    rwa [hpp, show decide (i < j) = true from by simpa using h1] at this
  rw [hpp] at hp ⊢
  have PC := Lib.hid pc
  clear pc hpp h1 hi hj
  go_enter Try.func72, Try.ntmps72
  go_wp2_with fail
  have A0 := (Blk.new w 59 300 f).alloc (.cells Try.zeroCells59 59)
  have A1 := Blk.new1 w (.cells (arrv 300 f) 59) 59 300 (fun _ => 0)
  rw [← zcov] at A1
  have hb : Below w.heap.size w ((w.alloc (.cells (arrv 300 f) 59)).alloc (.cells Try.zeroCells59 59)) := by (repeat (first | with_reducible exact Below.refl _ _ | with_reducible apply Below.drew | (with_reducible refine below_drewN ?_ _) | (with_reducible refine Below.alloc ?_ (by (try simp) <;> omega) _) | (with_reducible refine Below.setCell ?_ (by (try simp) <;> omega) _)))
  refine (PC.out _).mono ?_; rintro e w' ⟨rfl, rfl⟩
  generalize (w.alloc (.cells (arrv 300 f) 59)).alloc (.cells Try.zeroCells59 59) = W at *
  have b0 := A0.cell (i := p) (by omega)
  have b1 := A0.free p
  have B0 := A0.set p v
  have B1 := A1.other (a := ⟨w.heap.size, p, none⟩) (by simp) (.int .i64 v)
  go_wp2_with (first | (refine wpList_load_row rfl 59 _ rfl w.heap.size rfl 59 _ (0, 0) _ B0 Try.underlying59 rfl (icov.trans (by rw [arrv_size])) ?_) | (refine wpList_store_row rfl 59 _ _ rfl (w.heap.size + 1) _ rfl rfl 59 _ B1 (icov.trans (by rw [arrv_size])) (by rw [arrv_size, arrv_size]) (oneCell_arrv _ _) ?_))
  refine bodyPost_ret (results_cell_row Try.results72 _ _ (w.heap.size + 1) 59 (arrv 300 (upd f p v)) (0, 0) _ rfl (setRow_heap _ _ _ _ _ _ B1) Try.underlying59 rfl (icov.trans (by rw [arrv_size]))) rfl ⟨rfl, ?_⟩
  exact below_row (hb.setCell (Nat.le_refl _) _) (by omega) _
end Go.Proofs.Ytanmddenleffaaa
/- Contracts of package thornton (1): One, rows. -/
namespace Go.Proofs.Ytanmddenleffaaa
open Go.RowKit
set_option maxRecDepth 100000
def oneF : Nat → Int := fun i => if i / 24 = i % 24 then 1073741824 else 0
def oneS (k : Nat) : Nat → Int := fun i => if i / 24 = i % 24 ∧ i / 24 < k then 1073741824 else 0
theorem zmat : Try.zeroCells28 = arrv 576 (fun _ => 0) := by kernel_rfl
theorem imat : (Try.prog.info? 28).map (·.size) = some 576 := by kernel_rfl
structure OneR (w : World) (g : Nat → Int) (wr : World) : Prop where
  below : Below w.heap.size w wr
  res : Blk wr w.heap.size 28 576 (fun _ => 0)
  blk : Blk wr (w.heap.size + 1) 28 576 g
theorem one_any (w : World) :
    Calls Try.prog 10 #[] w fun e w' => e = .returned (.agg (arrv 576 oneF)) ∧ Below w.heap.size w w' := by
  go_enter Try.func10, Try.ntmps10
  go_wp2_with fail
  go_loopw [3] (fun i wr => ∃ k : Nat, k ≤ 24 ∧ i = .int .i64 k ∧ Hid (OneR w (oneS k) wr)) (fun i _ => 24 - (intOf i).toNat)
  case atStart =>
    refine ⟨0, by omega, rfl, ⟨by (repeat (first | with_reducible exact Below.refl _ _ | with_reducible apply Below.drew | (with_reducible refine below_drewN ?_ _) | (with_reducible refine Below.alloc ?_ (by (try simp) <;> omega) _) | (with_reducible refine Below.setCell ?_ (by (try simp) <;> omega) _))), ?_, ?_⟩⟩
    · rw [zmat]; exact (Blk.new w _ _ _).alloc _
    · rw [zmat]; exact (Blk.new1 w _ _ _ _).congr fun i hi => by simp [oneS]
  case round =>
    obtain ⟨k, hk, rfl, R⟩ := hrel
    by_cases hlt : k < 24
    · have b0 := R.out.blk.cell (i := k * 24 + k) (by omega)
      have b1 := R.out.blk.free (k * 24 + k)
      go_wp2_with fail
      go_roundw
      case rel =>
        refine ⟨k + 1, by omega, by go_num, ⟨R.out.below.setCell (by simp) _, R.out.res.other (by simp) _, ?_⟩⟩
        refine (R.out.blk.set _ _).congr fun i hi => ?_
        simp only [Go.Proofs.Ytanmddenleffaaa.upd, oneS]
        by_cases h1 : i = k * 24 + k
        · subst h1; rw [if_pos rfl, if_pos (by omega)]
        · rw [if_neg h1]; split <;> split <;> first | rfl | omega
      case measure => simp [intOf]; omega
    · have hk24 : k = 24 := by omega
      subst hk24
      have B0 := R.out.res
      have B1 := R.out.blk
      have HB := Lib.hid R.out.below
      clear R hlt hk
      rw [show ((24 : Nat) : Int) = 24 from rfl]
      go_wp2_with (first | (refine wpList_load_row rfl 28 _ rfl (w.heap.size + 1) rfl 28 _ (0, 0) _ B1 Try.underlying28 rfl (imat.trans (by rw [arrv_size])) ?_) | (refine wpList_store_row rfl 28 _ _ rfl w.heap.size _ rfl rfl 28 _ B0 (imat.trans (by rw [arrv_size])) (by rw [arrv_size, arrv_size]) (oneCell_arrv _ _) ?_))
      refine bodyPost_ret (results_cell_row Try.results10 _ _ w.heap.size 28 (arrv 576 (oneS 24)) (0, 0) _ rfl (setRow_heap _ _ _ _ _ _ B0) Try.underlying28 rfl (imat.trans (by rw [arrv_size]))) rfl ⟨?_, ?_⟩
      · rw [arrv_congr (g := oneF) fun i hi => by simp only [oneS, oneF]; split <;> split <;> first | rfl | omega]
      · exact below_row HB.out (Nat.le_refl _) _

/-- Column k of U; row i of a matrix. -/
def colF (f : Nat → Int) (k : Nat) : Nat → Int := fun m => if m ≤ k then uV f m k else 0
def rwV (f F : Nat → Int) (i k : Nat) : Int := dotV 30 (rowF 24 F i) (colF f k) 24
def rwB (f F : Nat → Int) (i k : Nat) : Bool := dotH 30 (rowF 24 F i) (colF f k) 24
def rwS (f F : Nat → Int) (k i : Nat) : Nat → Int := fun j => if j % 48 < k ∨ (j % 48 = k ∧ j / 48 < i) then rwV f F (j / 48) (j % 48) else 0
def rwE (f F : Nat → Int) (i : Nat) : Nat → Int := fun j => if j % 48 = 24 + j / 48 ∧ j / 48 < i then 1073741824 else rwS f F 24 0 j
def rowsW (f F : Nat → Int) : Nat → Int := fun j => if j % 48 < 24 then rwV f F (j / 48) (j % 48) else if j % 48 = 24 + j / 48 then 1073741824 else 0
def rwH (f F : Nat → Int) (k : Nat) : Bool := orB (fun k => orB (fun i => rwB f F i k) 24) k
def rowsH (f F : Nat → Int) : Bool := rwH f F 24
structure RowsR (c : Addr) (h : Bool) (f W : Nat → Int) (w wr : World) : Prop where
  upd : Upd c h w wr
  pb : Blk wr w.heap.size 59 300 f
  wb : Blk wr (w.heap.size + 1) 135 1152 W
theorem zrows : Try.zeroCells135 = arrv 1152 (fun _ => 0) := by kernel_rfl
theorem zcol : (#[.int .i64 0, .int .i64 0, .int .i64 0, .int .i64 0, .int .i64 0, .int .i64 0, .int .i64 0, .int .i64 0, .int .i64 0, .int .i64 0, .int .i64 0, .int .i64 0, .int .i64 0, .int .i64 0, .int .i64 0, .int .i64 0, .int .i64 0, .int .i64 0, .int .i64 0, .int .i64 0, .int .i64 0, .int .i64 0, .int .i64 0, .int .i64 0] : Array Value) = arrv 24 (fun _ => 0) := by kernel_rfl
end Go.Proofs.Ytanmddenleffaaa
/- Contract of thornton.rows. -/
namespace Go.Proofs.Ytanmddenleffaaa
open Go.RowKit
set_option maxRecDepth 100000
set_option maxHeartbeats 1000000 in
theorem rows_any (c : Addr) (h : Bool) (f F : Nat → Int) (fb : Nat) (w : World) (hc : w.cell? c = some (.bool h)) (hf : w.frozen? c = false) (hF : Blk w fb 28 576 F) :
    Calls Try.prog 71 #[.pointer (some c), .agg (arrv 300 f), .pointer (some ⟨fb, 0, none⟩)] w fun e w' =>
      e = .returned (.pointer (some ⟨w.heap.size + 1, 0, none⟩)) ∧ Upd c (h || rowsH f F) w w' ∧ Blk w' (w.heap.size + 1) 135 1152 (rowsW f F) := by
  have hcb := World.block_lt_of_cell? w c hc
  have hfl := hF.lt
  have hfc := hF.flag hc
  have HC := Lib.hid hc
  have HF := Lib.hid hf
  have HM := Lib.hid hF
  clear hc hf hF
  go_enter Try.func71, Try.ntmps71
  go_wp2_with fail
  go_loopw [13] (fun i wr => ∃ k : Nat, k ≤ 24 ∧ i = .int .i64 k ∧ Hid (RowsR c (h || rwH f F k) f (rwS f F k 0) w wr)) (fun i _ => 24 - (intOf i).toNat)
  case atStart =>
    refine ⟨0, by omega, rfl, ⟨?_, ?_, ?_⟩⟩
    · rw [show (h || rwH f F 0) = h from by simp [rwH, orB]]
      exact Upd.then (Upd.refl HC.out) (by (repeat (first | with_reducible exact Below.refl _ _ | with_reducible apply Below.drew | (with_reducible refine below_drewN ?_ _) | (with_reducible refine Below.alloc ?_ (by (try simp) <;> omega) _) | (with_reducible refine Below.setCell ?_ (by (try simp) <;> omega) _))))
    · exact (Blk.new w _ _ _).alloc _
    · rw [zrows]; exact (Blk.new1 w _ _ _ _).congr fun i hi => by simp [rwS]
  case round =>
    obtain ⟨k, hk, rfl, R⟩ := hrel
    by_cases hlt : k < 24
    · have PB := R.out.pb
      have d1 : decide ((k : Int) < 24) = true := by simp; omega
      obtain ⟨wo, rfl⟩ : ∃ wo : World, wo = wr := ⟨_, rfl⟩
      go_wp2_with fail
      go_loopw [18] (fun i wr => ∃ m : Nat, m ≤ k + 1 ∧ i = .int .i64 m ∧ Hid (Below wo.heap.size wo wr ∧ Blk wr wo.heap.size 26 24 (fun j => if j < m then colF f k j else 0))) (fun i _ => k + 1 - (intOf i).toNat)
      case atStart =>
        refine ⟨0, by omega, rfl, by (repeat (first | with_reducible exact Below.refl _ _ | with_reducible apply Below.drew | (with_reducible refine below_drewN ?_ _) | (with_reducible refine Below.alloc ?_ (by (try simp) <;> omega) _) | (with_reducible refine Below.setCell ?_ (by (try simp) <;> omega) _))), ?_⟩
        rw [zcol]; exact (Blk.new wo _ _ _).congr fun i hi => by simp
      case round =>
        obtain ⟨m, hm, rfl, Q⟩ := hrel
        by_cases hmk : m < k + 1
        · have PB2 := PB.below Q.out.1
          go_wp2_with (first | (refine wpList_load_row rfl 59 _ rfl w.heap.size rfl 59 _ (0, 0) _ PB2 Try.underlying59 rfl (icov.trans (by rw [arrv_size])) ?_))
          refine (u_any f m k _ (by omega) hlt).mono ?_; rintro e w2 ⟨rfl, hb2⟩
          have Q2 := Q.out.2.below hb2
          have q0 := Q2.cell (i := m) (by omega)
          have q1 := Q2.free m
          have HB2 := Lib.hid (Below.after Q.out.1 hb2)
          clear hb2 PB2
          go_wp2_with fail
          go_roundw
          case rel =>
            refine ⟨m + 1, by omega, by go_num, HB2.out.setCell (Nat.le_refl _) _, ?_⟩
            refine (Q2.set _ _).congr fun i hi => ?_
            simp only [Go.Proofs.Ytanmddenleffaaa.upd]
            by_cases h1 : i = m
            · subst h1; rw [if_pos rfl, if_pos (by omega)]; simp [colF]; omega
            · rw [if_neg h1]; split <;> split <;> first | rfl | omega
          case measure => simp [intOf]; omega
        · have hmk1 : m = k + 1 := by omega
          subst hmk1
          have CB := Q.out.2.congr (g := colF f k) fun i hi => by simp [colF]; omega
          have UU := Lib.hid ((R.out.upd.then Q.out.1))
          have PB3 := PB.below Q.out.1
          have WB := R.out.wb.below Q.out.1
          have hbs : w.heap.size + 1 < wo.heap.size := R.out.wb.lt
          clear Q hm hmk R PB
          obtain ⟨bc, hbc⟩ : ∃ bc, wo.heap.size = bc := ⟨_, rfl⟩
          rw [hbc] at CB hbs ⊢
          clear hbc
          rw [show ((k + 1 : Nat) : Int) = (k : Int) + 1 from by omega]
          go_wp2_with fail
          go_loopw [28] (fun i wr => ∃ m : Nat, m ≤ 24 ∧ i = .int .i64 m ∧ Hid (RowsR c (h || rwH f F k || orB (fun i => rwB f F i k) m) f (rwS f F k m) w wr ∧ Blk wr bc 26 24 (colF f k))) (fun i _ => 24 - (intOf i).toNat)
          case atStart =>
            refine ⟨0, by omega, rfl, ⟨?_, PB3, WB⟩, CB⟩
            rw [show (h || rwH f F k || orB (fun i => rwB f F i k) 0) = (h || rwH f F k) from by simp [orB]]
            exact UU.out
          case round =>
            obtain ⟨m, hm, rfl, Q⟩ := hrel
            by_cases hm24 : m < 24
            · have rc := Q.out.1.upd.cellc HC.out
              have rf := (Q.out.1.upd.frozen hcb).trans HF.out
              have MB := HM.out.upd Q.out.1.upd hfc
              go_wp2_with fail
              have d2 : decide ((m : Int) < 24) = true := by simp; omega
              have hk0 : (0 : Int) ≤ (k : Int) := Int.natCast_nonneg _
              have hm0 : (0 : Int) ≤ (m : Int) := Int.natCast_nonneg _
              have hk1 : (k : Int) < 24 := by omega
              have hm1 : (m : Int) < 24 := by omega
              have wb0 := Q.out.1.wb.cell (i := m * 48 + k) (by omega)
              have wb1 := Q.out.1.wb.free (m * 48 + k)
              have ga : ∀ i, i < 24 → wr.drew.cell? ⟨fb, m * 24 + i, none⟩ = some (.int .i64 (rowF 24 F m i)) := fun i hi => (MB.cell (i := m * 24 + i) (by omega)).trans rfl
              have gb : ∀ i, i < 24 → wr.drew.cell? ⟨bc, 0 + i, none⟩ = some (.int .i64 (colF f k i)) := fun i hi => by rw [Nat.zero_add]; exact Q.out.2.cell (i := i) hi
              have DC := Lib.hid (dot_any c _ 30 _ _ fb (m * 24) 24 bc 0 24 24 wr.drew rc rf (by decide) (by decide) (by decide) ga gb)
              clear ga gb
              go_region_with (go_at_call 17; (refine DC.out.mono ?_); rintro e w3 ⟨rfl, hu3⟩; (have wb3 := (Q.out.1.wb.drew.upd hu3 (Q.out.1.wb.flag rc)).cell (i := m * 48 + k) (by omega)); (have fz3 := (Q.out.1.wb.drew.upd hu3 (Q.out.1.wb.flag rc)).free (m * 48 + k)))
              have U3 : Upd c (h || rwH f F k || orB (fun i => rwB f F i k) m || rwB f F m k) wr w3 := Upd.after (Below.drew (Below.refl _ _)) hu3
              have W3 := Q.out.1.wb.upd U3 (Q.out.1.wb.flag rc)
              have P3 := Q.out.1.pb.upd U3 (Q.out.1.pb.flag rc)
              have C3 := Q.out.2.upd U3 (Q.out.2.flag rc)
              have HU3 := Lib.hid U3
              clear U3 hu3 wb3 fz3 wb0 wb1
              go_wp2_with fail
              go_roundw
              case rel =>
                refine ⟨m + 1, by omega, by go_num, ⟨?_, P3.other (by simp) _, ?_⟩, C3.other (by simp; omega) _⟩
                · rw [show (h || rwH f F k || orB (fun i => rwB f F i k) (m + 1)) = (h || rwH f F k || orB (fun i => rwB f F i k) m || rwB f F m k) from by simp [orB, Bool.or_assoc]]
                  exact (Q.out.1.upd.trans HU3.out).setCell (by simp) _
                · refine (W3.set _ _).congr fun i hi => ?_
                  simp only [Go.Proofs.Ytanmddenleffaaa.upd, rwS, rwV]
                  by_cases h1 : i = m * 48 + k
                  · subst h1
                    rw [if_pos rfl, if_pos (by omega), show (m * 48 + k) / 48 = m by omega, show (m * 48 + k) % 48 = k by omega]
                  · rw [if_neg h1]; split <;> split <;> first | rfl | omega
              case measure => simp [intOf]; omega
            · have hm1 : m = 24 := by omega
              subst hm1
              rw [show ((24 : Nat) : Int) = 24 from rfl]
              have HQ := Lib.hid Q.out.1
              clear Q hm hm24 CB UU PB3 WB hbs
              go_wp2_with fail
              go_roundw
              case rel =>
                refine ⟨k + 1, by omega, by go_num, ⟨?_, HQ.out.pb, ?_⟩⟩
                · rw [show (h || rwH f F (k + 1)) = (h || rwH f F k || orB (fun i => rwB f F i k) 24) from by simp [rwH, orB, Bool.or_assoc]]
                  exact HQ.out.upd
                · exact HQ.out.wb.congr fun i hi => by simp only [rwS]; split <;> split <;> first | rfl | omega
              case measure => simp [intOf]; omega
    · have hk24 : k = 24 := by omega
      subst hk24
      rw [show ((24 : Nat) : Int) = 24 from rfl]
      have HQ := R
      clear R hk hlt
      go_wp2_with fail
      go_loopw [45] (fun i wr => ∃ m : Nat, m ≤ 24 ∧ i = .int .i64 m ∧ Hid (RowsR c (h || rwH f F 24) f (rwE f F m) w wr)) (fun i _ => 24 - (intOf i).toNat)
      case atStart =>
        exact ⟨0, by omega, rfl, ⟨HQ.out.upd, HQ.out.pb, HQ.out.wb.congr fun i hi => by simp [rwE]⟩⟩
      case round =>
        obtain ⟨m, hm, rfl, Q⟩ := hrel
        by_cases hm24 : m < 24
        · have wb0 := Q.out.wb.cell (i := m * 48 + (24 + m)) (by omega)
          have wb1 := Q.out.wb.free (m * 48 + (24 + m))
          go_wp2_with fail
          go_roundw
          case rel =>
            refine ⟨m + 1, by omega, by go_num, ⟨Q.out.upd.setCell (by simp) _, Q.out.pb.other (by simp) _, ?_⟩⟩
            refine (Q.out.wb.set _ _).congr fun i hi => ?_
            simp only [Go.Proofs.Ytanmddenleffaaa.upd, rwE]
            by_cases h1 : i = m * 48 + (24 + m)
            · subst h1; rw [if_pos rfl, if_pos (by omega)]
            · rw [if_neg h1]; split <;> split <;> first | rfl | omega
          case measure => simp [intOf]; omega
        · have hm1 : m = 24 := by omega
          subst hm1
          have HQ2 := Lib.hid Q.out
          clear Q hm hm24 HQ
          go_wp2_with fail
          go_ret
          refine ⟨rfl, HQ2.out.upd, HQ2.out.wb.congr fun i hi => ?_⟩
          simp only [rwE, rowsW, rwS]
          by_cases h1 : i % 48 < 24
          · rw [if_neg (by omega), if_pos h1, if_pos (by omega)]
          · rw [if_neg h1, if_neg (show ¬ (i % 48 < 24 ∨ i % 48 = 24 ∧ i / 48 < 0) by omega)]
            split <;> split <;> first | rfl | omega
end Go.Proofs.Ytanmddenleffaaa
