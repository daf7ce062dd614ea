/- Contracts of the program's functions and plain laws, part 5: they hold for all arguments. -/
import Derived.Test.YtkllgphhfkoknaaQ04
import Derived.Laws.AppendOwn
import Derived.Test.YtkllgphhfkoknaaProg
import Derived.Deep.AppendLies
/- Contract of bierman.Pick. -/
namespace Go.Proofs.Ytkllgphhfkoknaa
open Go.RowKit
set_option maxRecDepth 100000
theorem irow : (Try.prog.info? 26).map (·.size) = some 24 := by kernel_rfl
theorem zrow : (#[.int .i64 0, .int .i64 0, .int .i64 0, .int .i64 0, .int .i64 0, .int .i64 0, .int .i64 0, .int .i64 0, .int .i64 0, .int .i64 0, .int .i64 0, .int .i64 0, .int .i64 0, .int .i64 0, .int .i64 0, .int .i64 0, .int .i64 0, .int .i64 0, .int .i64 0, .int .i64 0, .int .i64 0, .int .i64 0, .int .i64 0, .int .i64 0] : Array Value) = arrv 24 (fun _ => 0) := by kernel_rfl
/-- One at each state that is named. -/
def pkS (L : Nat → Int) : Nat → Nat → Int | 0 => fun _ => 0 | n + 1 => if 0 ≤ L n ∧ L n < 24 then upd (pkS L n) (L n).toNat 1073741824 else pkS L n
theorem pick_any (p : Option Addr) (n cp : Nat) (L : Nat → Int) (w : World) (hL : Slc w p n L) (hn : n ≤ 9223372036854775807) :
    Calls Try.prog 12 #[.slice p n cp] w fun e w' => e = .returned (.agg (arrv 24 (pkS L n))) ∧ Below w.heap.size w w' := by
  have HL := Lib.hid hL
  clear hL
  go_enter Try.func12, Try.ntmps12
  go_wp2_with fail
  go_loopw [8] (fun i wr => ∃ k : Nat, k ≤ n ∧ i = .int .i64 k ∧ Hid (Below w.heap.size w wr ∧ Blk wr w.heap.size 26 24 (fun _ => 0) ∧ Blk wr (w.heap.size + 1) 26 24 (pkS L k))) (fun i _ => n - (intOf i).toNat)
  case atStart =>
    refine ⟨0, by omega, rfl, by (repeat (first | with_reducible exact Below.refl _ _ | with_reducible apply Below.drew | (with_reducible refine below_drewN ?_ _) | (with_reducible refine Below.alloc ?_ (by (try simp) <;> omega) _) | (with_reducible refine Below.setCell ?_ (by (try simp) <;> omega) _))), ?_, ?_⟩
    · rw [zrow]; exact (Blk.new w _ _ _).alloc _
    · rw [zrow]; exact Blk.new1 w _ _ _ _
  case round =>
    obtain ⟨k, hk, rfl, R⟩ := hrel
    by_cases hlt : k < n
    · have d1 : decide ((k : Int) < (n : Int)) = true := by simp; omega
      obtain ⟨pb, po, rfl, hcell⟩ := HL.out k hlt
      have hc1 : wr.cell? ⟨pb, po + k, none⟩ = some (.int .i64 (L k)) := (R.out.1.cell (World.block_lt_of_cell? _ _ hcell)).trans hcell
      by_cases h0 : 0 ≤ L k
      · by_cases h1 : L k < 24
        · have hx : ((L k).toNat : Int) = L k := by omega
          obtain ⟨x, hxk⟩ : ∃ x, (L k).toNat = x := ⟨_, rfl⟩
          have hLx : L k = (x : Int) := by omega
          have hxl : x < 24 := by omega
          rw [hLx] at hc1
          have b0 := R.out.2.2.cell (i := x) hxl
          have b1 := R.out.2.2.free x
          have HX := Lib.hid hLx
          have HR := Lib.hid R.out
          clear hx hxk hLx h0 h1 R hcell
          have hx0 : (0 : Int) ≤ (x : Int) := Int.natCast_nonneg _
          have hx1 : (x : Int) < 24 := by omega
          go_wp2_with fail
          go_roundw
          case rel =>
            refine ⟨k + 1, by omega, by go_num, HR.out.1.setCell (by simp) _, HR.out.2.1.other (by simp) _, ?_⟩
            have := HR.out.2.2.set x 1073741824
            have e : pkS L (k + 1) = upd (pkS L k) x 1073741824 := by
              simp only [pkS]
              rw [if_pos (by rw [HX.out]; omega), HX.out]; rfl
            rw [e]; exact this
          case measure => simp [intOf]; omega
        · have d2 : decide (L k < 24) = false := by simp; omega
          have d3 : decide (0 ≤ L k) = true := by simp; omega
          have HR := Lib.hid R.out
          have e : pkS L (k + 1) = pkS L k := by simp only [pkS]; rw [if_neg (by omega)]
          have HE := Lib.hid e
          clear R hcell e
          go_wp2_with fail
          go_roundw
          case rel =>
            refine ⟨k + 1, by omega, by go_num, HR.out.1, HR.out.2.1, ?_⟩
            rw [HE.out]; exact HR.out.2.2
          case measure => simp [intOf]; omega
      · have d3 : decide (0 ≤ L k) = false := by simp; omega
        have HR := Lib.hid R.out
        have e : pkS L (k + 1) = pkS L k := by simp only [pkS]; rw [if_neg (by omega)]
        have HE := Lib.hid e
        clear R hcell e
        go_wp2_with fail
        go_roundw
        case rel =>
          refine ⟨k + 1, by omega, by go_num, HR.out.1, HR.out.2.1, ?_⟩
          rw [HE.out]; exact HR.out.2.2
        case measure => simp [intOf]; omega
    · obtain rfl : k = n := by omega
      have B0 := R.out.2.1
      have B1 := R.out.2.2
      have HB := Lib.hid R.out.1
      clear R hlt hk
      go_wp2_with (first | (refine wpList_load_row rfl 26 _ rfl (w.heap.size + 1) rfl 26 _ (0, 0) _ B1 Try.underlying26 rfl (irow.trans (by rw [arrv_size])) ?_) | (refine wpList_store_row rfl 26 _ _ rfl w.heap.size _ rfl rfl 26 _ B0 (irow.trans (by rw [arrv_size])) (by rw [arrv_size, arrv_size]) (oneCell_arrv _ _) ?_))
      refine bodyPost_ret (results_cell_row Try.results12 _ _ w.heap.size 26 (arrv 24 (pkS L k)) (0, 0) _ rfl (setRow_heap _ _ _ _ _ _ B0) Try.underlying26 rfl (irow.trans (by rw [arrv_size]))) rfl ⟨rfl, ?_⟩
      exact below_row HB.out (Nat.le_refl _) _
end Go.Proofs.Ytkllgphhfkoknaa
/- Contract of bierman.Gain. -/
namespace Go.Proofs.Ytkllgphhfkoknaa
open Go.RowKit
set_option maxRecDepth 100000
def gnF (K : Nat → Int) (y : Int) (n : Nat) : Nat → Int := fun i => if i < n then mulV (K i) y 30 else K i
def gnB (K : Nat → Int) (y : Int) (i : Nat) : Bool := mulH (K i) y 30
theorem gain_any (c : Addr) (h : Bool) (K : Nat → Int) (y : Int) (w : World) (hc : w.cell? c = some (.bool h)) (hf : w.frozen? c = false) :
    Calls Try.prog 14 #[.pointer (some c), .agg (arrv 24 K), .int .i64 y] w fun e w' => e = .returned (.agg (arrv 24 (gnF K y 24))) ∧ Upd c (h || orB (gnB K y) 24) w w' := by
  have hcb := World.block_lt_of_cell? w c hc
  have HC := Lib.hid hc
  have HF := Lib.hid hf
  clear hc hf
  go_enter Try.func14, Try.ntmps14
  go_wp2_with fail
  go_loopw [8] (fun i wr => ∃ k : Nat, k ≤ 24 ∧ i = .int .i64 k ∧ Hid (Upd c (h || orB (gnB K y) k) w wr ∧ Blk wr w.heap.size 26 24 (gnF K y k) ∧ Blk wr (w.heap.size + 1) 26 24 (fun _ => 0))) (fun i _ => 24 - (intOf i).toNat)
  case atStart =>
    refine ⟨0, by omega, rfl, ?_, ?_, ?_⟩
    · rw [show (h || orB (gnB K y) 0) = h from by simp [orB]]
      exact Upd.then (Upd.refl HC.out) (by (repeat (first | with_reducible exact Below.refl _ _ | with_reducible apply Below.drew | (with_reducible refine below_drewN ?_ _) | (with_reducible refine Below.alloc ?_ (by (try simp) <;> omega) _) | (with_reducible refine Below.setCell ?_ (by (try simp) <;> omega) _))))
    · rw [show gnF K y 0 = K from by funext i; simp [gnF]]; exact (Blk.new w _ _ _).alloc _
    · rw [zrow]; exact Blk.new1 w _ _ _ _
  case round =>
    obtain ⟨k, hk, rfl, R⟩ := hrel
    by_cases hlt : k < 24
    · have d1 : decide ((k : Int) < 24) = true := by simp; omega
      have b0 := R.out.2.1.cell (i := k) (by omega)
      rw [show gnF K y k k = K k from by simp [gnF]] at b0
      have rc := R.out.1.cellc HC.out
      have rf := (R.out.1.frozen hcb).trans HF.out
      have CC := Lib.hid (fmul_any c _ (K k) y 30 _ rc rf)
      clear rc rf
      go_wp2_with (go_at_call 20; refine CC.out.mono ?_; rintro e w' ⟨rfl, u⟩; have HU2 := Lib.hid (R.out.1.trans u); have S2 := R.out.2.1.upd u (by have := hcb; omega); have HR2 := Lib.hid (R.out.2.2.upd u (by have := hcb; omega)); have c0 := S2.cell (i := k) (by omega); have c1 := S2.free k; have HS2 := Lib.hid S2; clear u S2)
      go_roundw
      case rel =>
        refine ⟨k + 1, by omega, by go_num, ?_, ?_, HR2.out.other (by simp) _⟩
        · rw [show (h || orB (gnB K y) (k + 1)) = (h || orB (gnB K y) k || mulH (K k) y 30) from by simp [orB, gnB, Bool.or_assoc]]
          exact HU2.out.setCell (by simp) _
        · refine (HS2.out.set _ _).congr fun i hi => ?_
          simp only [Go.Proofs.Ytkllgphhfkoknaa.upd, gnF]
          by_cases h1 : i = k
          · subst h1; rw [if_pos rfl, if_pos (by omega)]
          · rw [if_neg h1]; split <;> split <;> first | rfl | omega
      case measure => simp [intOf]; omega
    · have hk24 : k = 24 := by omega
      subst hk24
      have B0 := R.out.2.1
      have B1 := R.out.2.2
      have HB := Lib.hid R.out.1
      clear R hlt hk
      go_wp2_with (first | (refine wpList_load_row rfl 26 _ rfl w.heap.size rfl 26 _ (0, 0) _ B0 Try.underlying26 rfl (irow.trans (by rw [arrv_size])) ?_) | (refine wpList_store_row rfl 26 _ _ rfl (w.heap.size + 1) _ rfl rfl 26 _ B1 (irow.trans (by rw [arrv_size])) (by rw [arrv_size, arrv_size]) (oneCell_arrv _ _) ?_))
      refine bodyPost_ret (results_cell_row Try.results14 _ _ (w.heap.size + 1) 26 (arrv 24 (gnF K y 24)) (0, 0) _ rfl (setRow_heap _ _ _ _ _ _ B1) Try.underlying26 rfl (irow.trans (by rw [arrv_size]))) rfl ⟨rfl, ?_⟩
      exact HB.out.then' (below_row (Below.refl _ _) (by first | omega | simp) _)
end Go.Proofs.Ytkllgphhfkoknaa
/- A slice of int64 that a call builds by append: what it owns. -/
namespace Go.Proofs.Ytkllgphhfkoknaa
open Go.RowKit
def ints (n : Nat) (L : Nat → Int) : List Value := (List.range n).map fun i => .int .i64 (L i)
theorem ints_length (n : Nat) (L : Nat → Int) : (ints n L).length = n := by simp [ints]
theorem ints_succ (n : Nat) (L : Nat → Int) : ints (n + 1) L = ints n L ++ [.int .i64 (L n)] := by simp [ints, List.range_succ]
theorem ints_get {n : Nat} {L : Nat → Int} {i : Nat} (h : i < n) : (ints n L)[i]? = some (.int .i64 (L i)) := by simp [ints, h]
theorem ints_congr {n : Nat} {L M : Nat → Int} (h : ∀ i, i < n → L i = M i) : ints n L = ints n M := by
  apply List.ext_getElem?
  intro i
  by_cases hi : i < n
  · rw [ints_get hi, ints_get hi, h i hi]
  · rw [List.getElem?_eq_none (by rw [ints_length]; omega), List.getElem?_eq_none (by rw [ints_length]; omega)]
/-- v is a slice of n numbers L in a block of its own, from block B on. -/
def Own (w : World) (B T : Nat) (v : Value) (n : Nat) (L : Nat → Int) : Prop := w.ownsRow B T 1 v n (ints n L)
theorem Own.nil (w : World) (B T : Nat) (L : Nat → Int) : Own w B T (.slice none 0 0) 0 L := World.ownsRow_nil w B T 1
theorem Own.congr {w : World} {B T : Nat} {v : Value} {n : Nat} {L M : Nat → Int} (h : Own w B T v n L) (e : ∀ i, i < n → L i = M i) : Own w B T v n M := by
  unfold Own at *; rwa [← ints_congr e]
theorem Own.kept {w w' : World} {B T : Nat} {v : Value} {n : Nat} {L : Nat → Int} (h : Own w B T v n L) (hs : ∀ k, B ≤ k → k < w.heap.size → some k = v.ownBlock → w'.heap[k]? = w.heap[k]?) : Own w' B T v n L := by
  refine ⟨h.1, ?_⟩
  rcases h.2 with hn | ⟨g, cap, cur, rfl, hb, hgg, rest⟩
  · exact .inl hn
  · refine .inr ⟨g, cap, cur, rfl, hb, ?_, rest⟩
    rw [hs g hb (Array.getElem?_eq_some_iff.1 hgg).1 rfl]
    exact hgg
theorem Own.below {w w' : World} {B T : Nat} {v : Value} {n : Nat} {L : Nat → Int} (h : Own w B T v n L) (b : Below w.heap.size w w') : Own w' B T v n L := h.kept fun k _ hk _ => b.block k hk
theorem Own.drew {w : World} {B T : Nat} {v : Value} {n : Nat} {L : Nat → Int} (h : Own w B T v n L) : Own w.drew B T v n L := h
theorem Own.alloc {w : World} {B T : Nat} {v : Value} {n : Nat} {L : Nat → Int} (h : Own w B T v n L) (o : Obj) : Own (w.alloc o) B T v n L := h.below ((Below.refl _ _).alloc (Nat.le_refl _) o)
theorem Own.upd {w w' : World} {B T : Nat} {v : Value} {n : Nat} {L : Nat → Int} (h : Own w B T v n L) {c : Addr} {f : Bool} (u : Upd c f w w') (hc : c.block < B) : Own w' B T v n L := h.kept fun k hB hk _ => u.block hk (by omega)
theorem Own.grown {w w' : World} {B T : Nat} {v : Value} {n : Nat} {L : Nat → Int} (h : Own w B T v n L) {r : Option Nat} (g : w.grownBy w' r) (hn : ∀ k, v.ownBlock = some k → r ≠ some k) : Own w' B T v n L :=
  h.kept fun k _ hk e => g.block k hk (fun e2 => hn k e.symm e2.symm)
theorem Own.other {w : World} {B T : Nat} {v : Value} {n : Nat} {L : Nat → Int} (h : Own w B T v n L) {a : Addr} (ha : v.ownBlock ≠ some a.block) (x : Value) : Own (w.setCell a x) B T v n L :=
  h.kept fun k _ _ e => heap_setCell_other w a k x (fun e2 => ha (by rw [← e, e2]))
/-- As a slice: its numbers. -/
theorem Own.slc {w : World} {B T : Nat} {v : Value} {n : Nat} {L : Nat → Int} (h : Own w B T v n L) (hn : 0 < n) :
    ∃ g cp, v = .slice (some ⟨g, 0, none⟩) n cp ∧ B ≤ g ∧ g < w.heap.size ∧ ∀ i, i < n → w.cell? ⟨g, 0 + i, none⟩ = some (.int .i64 (L i)) := by
  rcases h.2 with ⟨_, h0⟩ | ⟨g, cap, cur, rfl, hb, hgg, h1, h2, h3, h4⟩
  · omega
  · refine ⟨g, cap, rfl, hb, (Array.getElem?_eq_some_iff.1 hgg).1, fun i hi => ?_⟩
    rw [Nat.zero_add, cell_of_row w g i cur T (0, 0) hgg]
    have := ints_get (L := L) hi
    rw [← h4, List.getElem?_take] at this
    split at this
    · simpa using this
    · cases this
/-- Whatever is behind an append: below the first own block nothing has turned. -/
theorem below_grown {B : Nat} {w0 w w' : World} {r : Option Nat} (b : Below B w0 w) (g : w.grownBy w' r) (hr : ∀ k, r = some k → B ≤ k) (hB : B ≤ w.heap.size) : Below B w0 w' :=
  b.trans ⟨g.os, g.tape, g.output, g.size, fun k hk => by
    exact g.block k (by omega) (fun e => by have := hr k e.symm; omega)⟩
end Go.Proofs.Ytkllgphhfkoknaa
/- append of one number of int64 to a slice of the call's own. -/
namespace Go.Proofs.Ytkllgphhfkoknaa
open Go.RowKit
open Go
theorem info_i64 : (Try.prog.info? 2).map (fun i => (i.zero, i.size, i.bytes)) = some (some (.int .i64 0), 1, 8) := by kernel_rfl
theorem info_i64' : ∃ i, Try.prog.info? 2 = some i ∧ i.zero = some (.int .i64 0) ∧ i.size = 1 ∧ i.bytes = 8 := by
  have h := info_i64
  cases e : Try.prog.info? 2 with
  | none => rw [e] at h; cases h
  | some i => rw [e] at h; simp at h; exact ⟨i, rfl, h.1, h.2.1, h.2.2⟩
theorem own_snoc {n : Nat} {L : Nat → Int} {x : Int} : ints n L ++ [.int .i64 x] = ints (n + 1) (upd L n x) := by
  rw [ints_succ]
  congr 1
  · exact ints_congr fun i hi => by simp [upd, show ¬ i = n by omega]
  · simp [upd]
theorem run_app1 {w : World} (B : Nat) {v : Value} {n : Nat} {L : Nat → Int} (hown : Own w B 2 v n L) (nb c : Nat) (x : Int) (hx : w.cell? ⟨nb, 0, none⟩ = some (.int .i64 x)) (hn : n ≤ 1000000) (hB : B ≤ w.heap.size) (ty : TypeId) (H : Nat) (hH : w.heap.size = H) :
    ∃ g cap w', (Builtin.append_ #[33, 33] ty #[v, .slice (some ⟨nb, 0, none⟩) 1 c]).run Try.prog w = .ok (.slice (some ⟨g, 0, none⟩) (n + 1) cap) w' ∧
      Own w' B 2 (.slice (some ⟨g, 0, none⟩) (n + 1) cap) (n + 1) (upd L n x) ∧ w.grownBy w' v.ownBlock ∧ (v.ownBlock = some g ∨ g = H) ∧ g < w'.heap.size := by
  obtain ⟨i, hi, hz, hs, hb⟩ := info_i64'
  obtain ⟨g, cap, w', h1, h2, h3, h4, h5⟩ := run_append_lies (P := Try.prog) w 33 ty B 2 i (.int .i64 0) 1 8 Try.underlying33 hi hz hs hb rfl (by decide) v n (ints n L) hown ⟨nb, 0, none⟩ 1 c [.int .i64 x] rfl
    (fun j u hu => by
      have hj : j = 0 := by
        have := List.getElem?_eq_some_iff.1 hu
        obtain ⟨h, _⟩ := this
        simpa using h
      subst hj
      simp at hu
      subst hu
      simpa [Addr.add] using hx) (fun u hu => by rw [List.mem_singleton] at hu; subst hu; rfl) (by decide) (by unfold maxLen; omega) (by omega) hB H hH
  exact ⟨g, cap, w', h1, by unfold Own; rw [← own_snoc]; exact h2, h3, h4, h5⟩
theorem wp_app1 {w : World} {o : Oper} {a : Act} {K : Act → World → Prop} {Q : Exit → Act → World → Prop} (s x : Operand)
    (ho : o.op = .call { callee := .builtin .append, args := #[s, x], argTypes := #[33, 33] })
    (B : Nat) {v : Value} {n : Nat} {L : Nat → Int} (hs : a.eval s = v) (hown : Own w B 2 v n L) (nb c : Nat) (y : Int) (hx : a.eval x = .slice (some ⟨nb, 0, none⟩) 1 c) (hy : w.cell? ⟨nb, 0, none⟩ = some (.int .i64 y)) (hn : n ≤ 1000000) (hB : B ≤ w.heap.size) (H : Nat) (hH : w.heap.size = H)
    (h : ∀ g cap w', Own w' B 2 (.slice (some ⟨g, 0, none⟩) (n + 1) cap) (n + 1) (upd L n y) → w.grownBy w' v.ownBlock → (v.ownBlock = some g ∨ g = H) → g < w'.heap.size → K (a.put o.dst (.slice (some ⟨g, 0, none⟩) (n + 1) cap)) w') : o.wp Try.prog a w K Q := by
  obtain ⟨g, cap, w', hr, h2, h3, h4, h5⟩ := run_app1 B hown nb c y hy hn hB o.type H hH
  unfold Oper.wp execOp
  simp only [ho, resolve, invoke, builtin, Sem.run_bind, Sem.run_pure, Result.andThen_ok, List.map_toArray, List.map_cons, List.map_nil, hs, hx, hr]
  exact h g cap w' h2 h3 h4 h5
theorem wpList_app1 {w : World} {ops : Array Oper} {rest : List Oper} {o : Oper} {a : Act} {Q : Exit → Act → World → Prop} (hgd : o.guard = none) (s x : Operand)
    (ho : o.op = .call { callee := .builtin .append, args := #[s, x], argTypes := #[33, 33] })
    (B : Nat) {v : Value} {n : Nat} {L : Nat → Int} (hs : a.eval s = v) (hown : Own w B 2 v n L) (nb c : Nat) (y : Int) (hx : a.eval x = .slice (some ⟨nb, 0, none⟩) 1 c) (hy : w.cell? ⟨nb, 0, none⟩ = some (.int .i64 y)) (hn : n ≤ 1000000) (hB : B ≤ w.heap.size) (H : Nat) (hH : w.heap.size = H)
    (h : ∀ g cap w', Own w' B 2 (.slice (some ⟨g, 0, none⟩) (n + 1) cap) (n + 1) (upd L n y) → w.grownBy w' v.ownBlock → (v.ownBlock = some g ∨ g = H) → g < w'.heap.size → wpList Try.prog ops Q rest (a.put o.dst (.slice (some ⟨g, 0, none⟩) (n + 1) cap)) w') : wpList Try.prog ops Q (o :: rest) a w :=
  wpList_plain hgd fun _ hK => wp_app1 s x ho B hs hown nb c y hx hy hn hB H hH fun g cap w' h2 h3 h4 h5 => hK _ _ (h g cap w' h2 h3 h4 h5)
theorem step_app1 {w : World} {ops : Array Oper} {o : Oper} {a : Act} {K : Act → World → Prop} {Q : Exit → Act → World → Prop} {E : Prop} (hgd : o.guard = none) (s x : Operand)
    (ho : o.op = .call { callee := .builtin .append, args := #[s, x], argTypes := #[33, 33] })
    (B : Nat) {v : Value} {n : Nat} {L : Nat → Int} (hs : a.eval s = v) (hown : Own w B 2 v n L) (nb c : Nat) (y : Int) (hx : a.eval x = .slice (some ⟨nb, 0, none⟩) 1 c) (hy : w.cell? ⟨nb, 0, none⟩ = some (.int .i64 y)) (hn : n ≤ 1000000) (hB : B ≤ w.heap.size) (H : Nat) (hH : w.heap.size = H)
    (h : ∀ g cap w', Own w' B 2 (.slice (some ⟨g, 0, none⟩) (n + 1) cap) (n + 1) (upd L n y) → w.grownBy w' v.ownBlock → (v.ownBlock = some g ∨ g = H) → g < w'.heap.size → K (a.put o.dst (.slice (some ⟨g, 0, none⟩) (n + 1) cap)) w') :
    if Region.wanted o (yielded ops a.tmps) = true then Oper.wp Try.prog o a w K Q else E := by
  have hw : Region.wanted o (yielded ops a.tmps) = true := by simp [Region.wanted, hgd]
  rw [if_pos hw]
  exact wp_app1 s x ho B hs hown nb c y hx hy hn hB H hH h
end Go.Proofs.Ytkllgphhfkoknaa
/- thornton.Step with One, of variances alone: the noises are added, and nothing else. No program. -/
namespace Go.Proofs.Ytkllgphhfkoknaa
theorem orB_no {p : Nat → Bool} : ∀ {n : Nat}, (∀ i, i < n → p i = false) → orB p n = false
  | 0, _ => rfl
  | n + 1, h => by simp only [orB]; rw [orB_no fun i hi => h i (by omega), h n (by omega)]; rfl
theorem satV_0 : satV 0 = 0 := by decide
theorem satH_0 : satH 0 = false := by decide
theorem satV_one : satV 1073741824 = 1073741824 := by decide
theorem satH_one : satH 1073741824 = false := by decide
theorem rsh_mul (e : Int) : rsh (1073741824 * e) 30 = e := by
  have h2 : ((2 : Int) ^ 30) = 1073741824 := by decide
  unfold rsh rdiv
  rw [h2]
  have : (1073741824 * e).natAbs = 1073741824 * e.natAbs := by rw [Int.natAbs_mul]; rfl
  rw [this, show (1073741824 : Int).natAbs = 1073741824 from rfl]
  have e1 : (2 * (1073741824 * e.natAbs) + 1073741824) / (2 * 1073741824) = e.natAbs := by omega
  rw [e1]
  by_cases he : 0 ≤ e
  · rw [if_pos (by simp; omega)]; omega
  · rw [if_neg (by simp; omega)]; omega
theorem rsh_0 : rsh 0 30 = 0 := by decide
theorem mulV_one {e : Int} (h1 : -1152921504606846976 ≤ e) (h2 : e ≤ 1152921504606846976) : mulV 1073741824 e 30 = e := by
  unfold mulV
  rw [if_neg (by decide), satV_one, satV_id h1 h2, show (30 : Int).toNat = 30 from rfl, rsh_mul, satV_id h1 h2]
theorem mulH_one {e : Int} (h1 : -1152921504606846976 ≤ e) (h2 : e ≤ 1152921504606846976) : mulH 1073741824 e 30 = false := by
  unfold mulH
  rw [satV_one, satV_id h1 h2, show (30 : Int).toNat = 30 from rfl, rsh_mul, satH_one, satH_no h1 h2]; rfl
theorem rdiv_0 {d : Int} (h : d ≠ 0) : rdiv 0 d = 0 := by
  unfold rdiv
  have : (2 * (0 : Int).natAbs + d.natAbs) / (2 * d.natAbs) = 0 := Nat.div_eq_of_lt (by have := Int.natAbs_pos.2 h; simp; omega)
  rw [this]
  split <;> rfl
/-- A product taken out of a sum of products. -/
theorem dotS_out (A B : Nat → Int) (a : Nat) : ∀ n, a < n → dotS A B n = dotS (upd A a 0) B n + satV (A a) * satV (B a)
  | 0, h => by omega
  | n + 1, h => by
    simp only [dotS]
    by_cases ha : a = n
    · subst ha
      have e : ∀ m, m ≤ a → dotS (upd A a 0) B m = dotS A B m := by
        intro m
        induction m with
        | zero => intro _; rfl
        | succ m ih => intro hm; simp only [dotS]; rw [ih (by omega)]; simp only [upd]; rw [if_neg (by omega)]
      rw [e a (Nat.le_refl _)]
      simp only [upd, if_pos, satV_0, Int.zero_mul]
      omega
    · rw [dotS_out A B a n (by omega)]
      simp only [upd]
      rw [if_neg (by omega : ¬ n = a)]
      omega
theorem dotS_no {A B : Nat → Int} : ∀ {n : Nat}, (∀ i, i < n → A i = 0 ∨ B i = 0) → dotS A B n = 0
  | 0, _ => rfl
  | n + 1, h => by
    simp only [dotS]
    rw [dotS_no fun i hi => h i (by omega)]
    rcases h n (by omega) with e | e <;> rw [e, satV_0] <;> simp
theorem dotS_congr {A B A' B' : Nat → Int} : ∀ {n : Nat}, (∀ i, i < n → A i = A' i ∧ B i = B' i) → dotS A B n = dotS A' B' n
  | 0, _ => rfl
  | n + 1, h => by
    simp only [dotS]
    rw [dotS_congr fun i hi => h i (by omega), (h n (by omega)).1, (h n (by omega)).2]
theorem dotB_no {A B : Nat → Int} : ∀ {n : Nat}, (∀ i, i < n → satH (A i) = false ∧ satH (B i) = false) → dotB A B n = false
  | 0, _ => rfl
  | n + 1, h => by
    simp only [dotB]
    rw [dotB_no fun i hi => h i (by omega), (h n (by omega)).1, (h n (by omega)).2]; rfl
/-- Of the products but one at a. -/
theorem dotS_1 {A B : Nat → Int} {n a : Nat} (ha : a < n) (h : ∀ i, i < n → i ≠ a → A i = 0 ∨ B i = 0) : dotS A B n = satV (A a) * satV (B a) := by
  rw [dotS_out A B a n ha, dotS_no, Int.zero_add]
  intro i hi
  by_cases e : i = a
  · left; simp [upd, e]
  · rcases h i hi e with h | h
    · left; simp [upd, e, h]
    · right; exact h
/-- The rows that are orthogonal from the start. -/
def idW (x : Nat) : Int := if x % 48 = x / 48 ∨ x % 48 = 24 + x / 48 then 1073741824 else 0
theorem tri_le {j : Nat} (hj : j < 24) : j * (j - 1) / 2 + j ≤ 276 := by
  have : ∀ j : Fin 24, j.val * (j.val - 1) / 2 + j.val ≤ 276 := by decide
  exact this ⟨j, hj⟩
section
variable {W e : Nat → Int} (hW : ∀ x, x < 1152 → W x = idW x) (he : ∀ k, k < 48 → 0 ≤ e k ∧ e k ≤ 72057594037927936)
include hW he
variable (hs : ∀ j, j < 24 → 1 ≤ e j + e (24 + j) ∧ e j + e (24 + j) ≤ 72057594037927936)
include hs
end
/-- A covariance of variances alone. -/
def DiagF (f : Nat → Int) : Prop := (∀ x, x < 276 → f x = 0) ∧ ∀ i, i < 24 → 1 ≤ f (276 + i) ∧ f (276 + i) ≤ 72057594037927936
theorem varV_id {a : Int} (h : 1 ≤ a) (h' : a ≤ 72057594037927936) : varV a = a ∧ varH a = false := by
  constructor
  · unfold varV clampV; rw [if_neg (by omega), if_neg (by omega), if_neg (by omega)]
  · unfold varH clampH; simp; omega
theorem qV_id {a : Int} (h : 0 ≤ a) (h' : a ≤ 72057594037927936) : qV a = a ∧ qH a = false := by
  constructor
  · unfold qV clampV; rw [if_neg (by omega), if_neg (by omega), if_neg (by omega)]
  · unfold qH clampH; simp; omega
theorem cond_diag {f : Nat → Int} (h : DiagF f) : (∀ x, x < 300 → condF f x = f x) ∧ condH f = false := by
  constructor
  · intro x hx
    unfold condF
    split
    · rename_i h1; rw [h.1 x h1, satV_0]
    · have := h.2 (x - 276) (by omega)
      rw [show 276 + (x - 276) = x by omega] at this
      exact (varV_id this.1 this.2).1
  · unfold condH
    rw [orB_no, orB_no]; rfl
    · intro i hi; rw [h.1 i hi, satH_0]
    · intro i hi; exact (varV_id (h.2 i hi).1 (h.2 i hi).2).2
theorem colF_diag {f : Nat → Int} (h : ∀ x, x < 276 → f x = 0) {k m : Nat} (hk : k < 24) : colF f k m = if m = k then 1073741824 else 0 := by
  unfold colF uV
  have ht := tri_le hk
  by_cases e : m = k
  · rw [if_pos (by omega), if_pos e, if_pos e]
  · rw [if_neg e, if_neg e]
    split
    · rw [if_pos (by omega)]
      exact h _ (by unfold pl; omega)
    · rfl
end Go.Proofs.Ytkllgphhfkoknaa
/- bierman's plain laws: a row of noughts, turned signs, what is learnt is good. No program. -/
namespace Go.Proofs.Ytkllgphhfkoknaa
theorem orB_congr {p q : Nat → Bool} : ∀ {n : Nat}, (∀ i, i < n → p i = q i) → orB p n = orB q n
  | 0, _ => rfl
  | n + 1, h => by simp only [orB]; rw [orB_congr fun i hi => h i (by omega), h n (by omega)]
theorem condF_U {f : Nat → Int} {x : Nat} (h : x < 276) : -1152921504606846976 ≤ condF f x ∧ condF f x ≤ 1152921504606846976 := by
  unfold condF; rw [if_pos h]; exact satV_bd _
theorem addV_0l {a : Int} (h1 : -1152921504606846976 ≤ a) (h2 : a ≤ 1152921504606846976) : addV a 0 = a ∧ addH a 0 = false := by
  unfold addV addH
  rw [satV_0, Int.add_zero, satV_id h1 h2, satV_id h1 h2, satH_no h1 h2, satH_0]; exact ⟨rfl, rfl⟩
theorem mulV_z (e : Int) (s : Int) : mulV 0 e s = 0 := by
  unfold mulV
  split
  · rfl
  · rw [satV_0, Int.zero_mul]
    have : rsh 0 s.toNat = 0 := by
      unfold rsh; exact rdiv_0 (Int.ne_of_gt (Int.pow_pos (by decide)))
    rw [this, satV_0]
theorem mulV_comm (a b s : Int) : mulV a b s = mulV b a s := by unfold mulV; rw [Int.mul_comm]
theorem divV_z {b : Int} (hb : satV b ≠ 0) (s : Int) : divV 0 b s = 0 := by
  unfold divV byV
  rw [if_neg hb]
  split
  · rfl
  · rw [satV_0, Int.zero_mul, rdiv_0 hb, satV_0]
theorem rdiv_self_mul {d a : Int} (ha : 0 < a) : rdiv (d * a) a = d := by
  unfold rdiv
  have e : (d * a).natAbs = d.natAbs * a.natAbs := Int.natAbs_mul ..
  have hp : 0 < a.natAbs := by omega
  have e1 : (2 * (d * a).natAbs + a.natAbs) / (2 * a.natAbs) = d.natAbs := by
    rw [e, ← Nat.mul_assoc]
    rw [show 2 * d.natAbs * a.natAbs = d.natAbs * (2 * a.natAbs) by rw [Nat.mul_comm 2, Nat.mul_assoc], Nat.mul_comm d.natAbs]
    rw [Nat.mul_add_div (by omega)]
    rw [Nat.div_eq_of_lt (by omega)]; omega
  rw [e1]
  by_cases hd : 0 ≤ d
  · rw [if_pos (by simp [ha, Int.mul_nonneg hd (Int.le_of_lt ha)])]; omega
  · have : d * a < 0 := Int.mul_neg_of_neg_of_pos (by omega) ha
    rw [if_neg (by simp [ha]; omega)]; omega
section
variable {p : Nat → Int} (hU : ∀ x, x < 276 → -1152921504606846976 ≤ p x ∧ p x ≤ 1152921504606846976) (hD : ∀ i, i < 24 → 1 ≤ p (276 + i) ∧ p (276 + i) ≤ 72057594037927936) {r : Int} (hr : 1 ≤ r ∧ r ≤ 72057594037927936)
end
theorem rdiv_neg1 (a d : Int) : rdiv (-a) d = -rdiv a d := by
  by_cases ha : a = 0
  · subst ha
    by_cases hd : d = 0
    · subst hd; decide
    · rw [Int.neg_zero, rdiv_0 hd]; rfl
  · unfold rdiv
    rw [Int.natAbs_neg]
    generalize (((2 * a.natAbs + d.natAbs) / (2 * d.natAbs) : Nat) : Int) = q
    by_cases h1 : 0 < d
    · by_cases h2 : 0 ≤ a
      · rw [if_neg (by simp [h1]; omega), if_pos (by simp [h1]; omega)]
      · rw [if_pos (by simp [h1]; omega), if_neg (by simp [h1]; omega)]; omega
    · by_cases h2 : 0 ≤ a
      · rw [if_pos (by simp [h1]; omega), if_neg (by simp [h1]; omega)]; omega
      · rw [if_neg (by simp [h1]; omega), if_pos (by simp [h1]; omega)]
theorem mulH_comm (a b s : Int) : mulH a b s = mulH b a s := by
  unfold mulH; rw [Int.mul_comm, Bool.or_comm (satH a)]
section
variable (p h : Nat → Int) (r : Int)
end
/-- What is learnt is good, and no D is greater. -/
theorem rdiv_le {x d m : Int} (hd : 0 < d) (h : x ≤ m * d) (hm : 0 ≤ m) : rdiv x d ≤ m := by
  unfold rdiv
  by_cases hx : 0 ≤ x
  · rw [if_pos (by simp [hx, hd])]
    have : (2 * x.natAbs + d.natAbs) / (2 * d.natAbs) < m.natAbs + 1 := by
      apply Nat.div_lt_of_lt_mul
      have e : (x.natAbs : Int) ≤ (m.natAbs * d.natAbs : Nat) := by rw [Int.natCast_mul, Int.natAbs_of_nonneg hm, Int.natAbs_of_nonneg (Int.le_of_lt hd), Int.natAbs_of_nonneg hx]; exact h
      have e2 : x.natAbs ≤ m.natAbs * d.natAbs := by omega
      have e3 : 2 * d.natAbs * (m.natAbs + 1) = 2 * (m.natAbs * d.natAbs) + 2 * d.natAbs := by
        rw [Nat.mul_add, Nat.mul_one, Nat.mul_assoc, Nat.mul_comm d.natAbs]
      have : 0 < d.natAbs := by omega
      rw [e3]
      generalize m.natAbs * d.natAbs = k at *
      omega
    omega
  · rw [if_neg (by simp [hx, hd])]
    have : (0 : Int) ≤ (((2 * x.natAbs + d.natAbs) / (2 * d.natAbs) : Nat) : Int) := Int.natCast_nonneg _
    omega
theorem rdiv_nonneg {x d : Int} (hx : 0 ≤ x) (hd : 0 < d) : 0 ≤ rdiv x d := by
  unfold rdiv
  rw [if_pos (by simp [hx, hd])]; exact Int.natCast_nonneg _
section
variable {p h : Nat → Int} {r : Int} (hD : ∀ i, i < 24 → 1 ≤ p (276 + i) ∧ p (276 + i) ≤ 72057594037927936) (hr : 1 ≤ r ∧ r ≤ 72057594037927936)
include hD
include hr
end
theorem upOm_at {O p h : Nat → Int} {r : Int} {j : Nat} (hj : j < 24) : ∀ m, m ≤ j → (∀ i, i < 24 → i ≠ j → upOm O p h r j m (276 + i) = O (276 + i)) ∧ upOm O p h r j m (276 + j) = upD p h r j ∧
    ∀ x, x < 276 → (-1152921504606846976 ≤ O x ∧ O x ≤ 1152921504606846976) → -1152921504606846976 ≤ upOm O p h r j m x ∧ upOm O p h r j m x ≤ 1152921504606846976
  | 0, _ => by
    refine ⟨fun i hi hne => ?_, ?_, fun x hx hO => ?_⟩
    · simp only [upOm, upd]; rw [if_neg (by omega)]
    · simp only [upOm, upd, if_true]
    · simp only [upOm, upd]; rw [if_neg (by omega)]; exact hO
  | m + 1, hm => by
    obtain ⟨h1, h2, h3⟩ := upOm_at (O := O) (p := p) (h := h) (r := r) hj m (by omega)
    have hp := pl_lt (i := m) (j := j) (by omega) hj
    refine ⟨fun i hi hne => ?_, ?_, fun x hx hO => ?_⟩
    · simp only [upOm, upd]; rw [if_neg (by omega)]; exact h1 i hi hne
    · simp only [upOm, upd]; rw [if_neg (by omega)]; exact h2
    · simp only [upOm, upd]; split
      · unfold upU addV; exact satV_bd _
      · exact h3 x hx hO
theorem upO_at {p h : Nat → Int} {r : Int} (hU : ∀ x, x < 276 → -1152921504606846976 ≤ p x ∧ p x ≤ 1152921504606846976) : ∀ j, j ≤ 24 →
    (∀ i, i < 24 → upO p h r j (276 + i) = if i < j then upD p h r i else p (276 + i)) ∧ ∀ x, x < 276 → -1152921504606846976 ≤ upO p h r j x ∧ upO p h r j x ≤ 1152921504606846976
  | 0, _ => ⟨fun i _ => by rw [if_neg (by omega)]; rfl, hU⟩
  | j + 1, hj => by
    obtain ⟨h1, h2⟩ := upO_at (p := p) (h := h) (r := r) hU j (by omega)
    obtain ⟨g1, g2, g3⟩ := upOm_at (O := upO p h r j) (p := p) (h := h) (r := r) (show j < 24 by omega) j (Nat.le_refl _)
    refine ⟨fun i hi => ?_, fun x hx => by simp only [upO]; exact g3 x hx (h2 x hx)⟩
    simp only [upO]
    by_cases e : i = j
    · subst e; rw [g2, if_pos (by omega)]
    · rw [g1 i hi e, h1 i hi]
      split <;> split <;> first | rfl | omega
end Go.Proofs.Ytkllgphhfkoknaa
/- bierman's plain laws (2): one state by itself, and the flags of a row of noughts. No program. -/
namespace Go.Proofs.Ytkllgphhfkoknaa
/-- One at the state k. -/
def pkF (k : Nat) : Nat → Int := fun i => if i = k then 1073741824 else 0
theorem satS_pk (k : Nat) : satS (pkF k) 24 = pkF k := by
  funext i; unfold satS pkF
  split
  · split
    · exact satV_one
    · exact satV_0
  · rfl
theorem addH_of {a b : Int} (h1 : -1152921504606846976 ≤ a) (h2 : a ≤ 1152921504606846976) (h3 : -1152921504606846976 ≤ b) (h4 : b ≤ 1152921504606846976) (h5 : -1152921504606846976 ≤ a + b) (h6 : a + b ≤ 1152921504606846976) :
    addV a b = a + b ∧ addH a b = false := by
  unfold addV addH
  rw [satV_id h1 h2, satV_id h3 h4, satV_id h5 h6, satH_no h1 h2, satH_no h3 h4, satH_no h5 h6]; exact ⟨rfl, rfl⟩
theorem mulH_z {e : Int} (h1 : -1152921504606846976 ≤ e) (h2 : e ≤ 1152921504606846976) {s : Int} (s0 : 0 ≤ s) (s1 : s ≤ 120) : mulH 0 e s = false := by
  unfold mulH
  have : rsh (satV 0 * satV e) s.toNat = 0 := by
    rw [satV_0, Int.zero_mul]; unfold rsh; exact rdiv_0 (Int.ne_of_gt (Int.pow_pos (by decide)))
  rw [this, satH_0, satH_no h1 h2]; simp; omega
theorem divH_z {b : Int} (h1 : 1 ≤ b) (h2 : b ≤ 1152921504606846976) {s : Int} (s0 : 0 ≤ s) (s1 : s ≤ 66) : divH 0 b s = false := by
  unfold divH byH
  rw [satV_0, Int.zero_mul, satH_0, satV_id (by omega) h2, rdiv_0 (by omega), satH_0, satH_no (by omega) h2]; simp; omega
section
variable {p : Nat → Int} (hp : DiagF p) {k : Nat} (hk : k < 24) {r : Int} (hr : 1 ≤ r ∧ r ≤ 72057594037927936) (hd : p (276 + k) ≤ 72057594037927936)
include hp in
theorem bkF_1 {j : Nat} (hj : j < 24) : bkF p (pkF k) j = (if j = k then 1073741824 else 0) ∧ bkFH p (pkF k) j = false := by
  have hb : dotB (pkF k) (colF p j) (j + 1) = false := by
    refine dotB_no fun i hi => ⟨?_, ?_⟩
    · unfold pkF; split; exact satH_one; exact satH_0
    · rw [colF_diag hp.1 hj]; split; exact satH_one; exact satH_0
  have hs : dotS (pkF k) (colF p j) (j + 1) = if j = k then 1073741824 * 1073741824 else 0 := by
    rw [dotS_1 (a := j) (by omega)]
    · rw [colF_diag hp.1 hj, if_pos rfl]
      unfold pkF
      split
      · rw [satV_one]
      · rw [satV_0, Int.zero_mul]
    · intro i hi hne
      right; rw [colF_diag hp.1 hj, if_neg hne]
  unfold bkF bkFH dotV dotH
  rw [if_neg (by decide : ¬ ((30 : Int) < 0 ∨ (120 : Int) < 30)), if_neg (by decide : ¬ ((30 : Int) < 0 ∨ (120 : Int) < 30)), hb, hs, show (30 : Int).toNat = 30 from rfl]
  split
  · rw [rsh_mul]; exact ⟨satV_one, by rw [satH_one]; rfl⟩
  · rw [rsh_0]; exact ⟨satV_0, by rw [satH_0]; rfl⟩
include hp in
theorem bkV_1 {j : Nat} (hj : j < 24) : bkV p (pkF k) j = (if j = k then p (276 + k) else 0) ∧ bkVH p (pkF k) j = false := by
  have h := hp.2 j hj
  unfold bkV bkVH
  rw [(bkF_1 hp hj).1]
  split
  · rename_i e
    subst e
    rw [mulV_comm, mulH_comm]
    exact ⟨mulV_one (by omega) (by omega), mulH_one (by omega) (by omega)⟩
  · rw [mulV_comm, mulH_comm]
    exact ⟨mulV_z _ _, mulH_z (by omega) (by omega) (by decide) (by decide)⟩
include hp hr hd hk in
theorem bkA_1 : ∀ j, j ≤ 24 → bkA p (pkF k) r j = if k < j then r + p (276 + k) else r
  | 0, _ => by simp [bkA]
  | j + 1, hj => by
    have hj' : j < 24 := by omega
    have h := hp.2 k hk
    simp only [bkA]
    rw [bkA_1 j (by omega), (bkF_1 hp hj').1, (bkV_1 hp hj').1]
    by_cases e : j = k
    · subst e
      rw [if_pos rfl, if_pos rfl, if_neg (by omega), if_pos (by omega), mulV_one (by omega) (by omega)]
      exact (addH_of (by omega) (by omega) (by omega) (by omega) (by omega) (by omega)).1
    · rw [if_neg e, mulV_z]
      split
      · rw [if_pos (by omega)]; exact (addV_0l (by omega) (by omega)).1
      · rw [if_neg (by omega)]; exact (addV_0l (by omega) (by omega)).1
include hp hr hd hk in
theorem bkS_1 {j : Nat} (hj : j < 24) : bkS p (pkF k) r j = false := by
  have h := hp.2 k hk
  unfold bkS bkAH
  rw [(bkF_1 hp hj).2, (bkV_1 hp hj).2, (bkF_1 hp hj).1, (bkV_1 hp hj).1, bkA_1 hp hk hr hd j (by omega)]
  by_cases e : j = k
  · rw [if_pos e, if_pos e, if_neg (by omega), mulH_one (by omega) (by omega), mulV_one (by omega) (by omega), (addH_of (by omega) (by omega) (by omega) (by omega) (by omega) (by omega)).2]; rfl
  · rw [if_neg e, if_neg e, mulH_z (by omega) (by omega) (by decide) (by decide), mulV_z]
    split
    · rw [(addV_0l (by omega) (by omega)).2]; rfl
    · rw [(addV_0l (by omega) (by omega)).2]; rfl
include hp in
theorem upB_1 : ∀ j, j ≤ 24 → ∀ i, i < 24 → upB p (pkF k) j i = if k < j ∧ i = k then p (276 + k) else 0
  | 0, _, i, _ => by simp [upB]
  | j + 1, hj, i, hi => by
    have hu : ∀ i, i < j → uV p i j = 0 := fun i hij => by
      unfold uV; rw [if_neg (by omega), if_pos hij]; exact hp.1 _ (pl_lt hij (by omega))
    have hB := upB_1 j (by omega) i hi
    simp only [upB]
    rw [hB, (bkV_1 hp (by omega)).1]
    by_cases e : i = j
    · rw [if_pos e]
      split <;> split <;> first | rfl | omega
    · rw [if_neg e]
      by_cases e2 : i < j
      · rw [if_pos e2, hu i e2, mulV_z]
        split
        · have := hp.2 k (by omega)
          rw [if_pos (by omega)]; exact (addV_0l (by omega) (by omega)).1
        · rw [if_neg (by omega)]; exact (addV_0l (by omega) (by omega)).1
      · rw [if_neg e2]
        split <;> split <;> first | rfl | omega
include hp hr hd hk in
theorem upDone {j : Nat} (hj : j < 24) : upD p (pkF k) r j = (if j = k then mdivV (p (276 + k)) r (p (276 + k) + r) else p (276 + j)) ∧ upDH p (pkF k) r j = false := by
  have h := hp.2 j hj
  have hk2 := hp.2 k hk
  have hA := bkA_1 hp hk hr hd j (by omega)
  have hA1 := bkA_1 hp hk hr hd (j + 1) (by omega)
  by_cases e : j = k
  · subst e
    rw [if_neg (by omega)] at hA
    rw [if_pos (by omega)] at hA1
    have hs : satV (p (276 + j) + r) = p (276 + j) + r := satV_id (by omega) (by omega)
    have hx : 0 ≤ rdiv (p (276 + j) * r) (p (276 + j) + r) := rdiv_nonneg (Int.mul_nonneg (by omega) (by omega)) (by omega)
    have hy : rdiv (p (276 + j) * r) (p (276 + j) + r) ≤ p (276 + j) := rdiv_le (by omega) (Int.mul_le_mul_of_nonneg_left (by omega) (by omega)) (by omega)
    have hz : 1 ≤ rdiv (p (276 + j) * r) (p (276 + j) + r) := by
      unfold rdiv
      rw [if_pos (by simp [Int.mul_nonneg (show 0 ≤ p (276 + j) by omega) (show 0 ≤ r by omega)]; omega)]
      have : 1 ≤ (2 * (p (276 + j) * r).natAbs + (p (276 + j) + r).natAbs) / (2 * (p (276 + j) + r).natAbs) := by
        rw [Nat.le_div_iff_mul_le (by omega), Nat.one_mul]
        have h2 : (p (276 + j) + r).natAbs ≤ 2 * (p (276 + j) * r).natAbs := by
          rw [Int.natAbs_mul]
          have a1 : 1 ≤ (p (276 + j)).natAbs := by omega
          have a2 : 1 ≤ r.natAbs := by omega
          have e1 : (p (276 + j)).natAbs ≤ (p (276 + j)).natAbs * r.natAbs := Nat.le_mul_of_pos_right _ a2
          have e2 : r.natAbs ≤ (p (276 + j)).natAbs * r.natAbs := Nat.le_mul_of_pos_left _ a1
          omega
        omega
      omega
    have hm : mdivV (p (276 + j)) r (p (276 + j) + r) = rdiv (p (276 + j) * r) (p (276 + j) + r) := by
      unfold mdivV byV
      rw [hs, satV_id (a := p (276 + j)) (by omega) (by omega), satV_id (a := r) (by omega) (by omega), if_neg (by omega), satV_id (by omega) (by omega)]
    unfold upD upDH
    rw [hA, hA1, Int.add_comm r, if_pos rfl, hm, (varV_id hz (by omega)).1, (varV_id hz (by omega)).2]
    refine ⟨rfl, ?_⟩
    unfold mdivH byH
    rw [hs, satV_id (a := p (276 + j)) (by omega) (by omega), satV_id (a := r) (by omega) (by omega), satH_no (a := p (276 + j)) (by omega) (by omega), satH_no (a := r) (by omega) (by omega), satH_no (a := p (276 + j) + r) (by omega) (by omega), satH_no (by omega) (by omega)]
    simp; omega
  · have hAA : bkA p (pkF k) r (j + 1) = bkA p (pkF k) r j := by
      rw [hA, hA1]
      split <;> split <;> first | rfl | omega
    have hb : 1 ≤ bkA p (pkF k) r j ∧ bkA p (pkF k) r j ≤ 1152921504606846976 := by
      rw [hA]; split <;> omega
    unfold upD upDH mdivV mdivH byV byH
    rw [hAA, satV_id (a := bkA p (pkF k) r j) (by omega) (by omega), if_neg (by omega), satV_id (a := p (276 + j)) (by omega) (by omega), rdiv_self_mul (by omega), satV_id (by omega) (by omega), if_neg e, satH_no (a := p (276 + j)) (by omega) (by omega), satH_no (a := bkA p (pkF k) r j) (by omega) hb.2, (varV_id h.1 h.2).1, (varV_id h.1 h.2).2]
    refine ⟨rfl, ?_⟩
    simp; omega
include hp hr hd hk in
theorem upX_1 {j : Nat} (hj : j < 24) (hne : j ≠ k) : upX p (pkF k) r j = 0 ∧ upXH p (pkF k) r j = false := by
  have hA := bkA_1 hp hk hr hd j (by omega)
  have h := hp.2 k hk
  have hb : 1 ≤ bkA p (pkF k) r j ∧ bkA p (pkF k) r j ≤ 1152921504606846976 := by rw [hA]; split <;> omega
  unfold upX upXH
  rw [(bkF_1 hp hj).1, if_neg hne, divV_z (by rw [satV_id (by omega) hb.2]; omega), divH_z hb.1 hb.2 (by decide) (by decide)]
  exact ⟨rfl, rfl⟩
theorem byV_bd (x d : Int) : -1152921504606846976 ≤ byV x d ∧ byV x d ≤ 1152921504606846976 := by
  unfold byV; split
  · split
    · omega
    · split <;> omega
  · exact satV_bd _
theorem divV_bd (a b s : Int) : -1152921504606846976 ≤ divV a b s ∧ divV a b s ≤ 1152921504606846976 := by
  unfold divV; split
  · omega
  · exact byV_bd _ _
theorem upX_bd (p h : Nat → Int) (r : Int) (j : Nat) : -1152921504606846976 ≤ upX p h r j ∧ upX p h r j ≤ 1152921504606846976 := by
  have := divV_bd (bkF p h j) (bkA p h r j) 44
  unfold upX; omega
include hp hr hd hk in
theorem upU_1 {j i : Nat} (hj : j < 24) (hi : i < j) : upU p (pkF k) r j i = 0 ∧ upRH p (pkF k) r j i = false := by
  have h := hp.2 k hk
  have hu : uV p i j = 0 := by unfold uV; rw [if_neg (by omega), if_pos hi]; exact hp.1 _ (pl_lt hi hj)
  have hB := upB_1 (p := p) (k := k) hp j (by omega) i (by omega)
  have hv := (bkV_1 hp (k := k) hj).1
  have hx := upX_bd p (pkF k) r j
  have hbb : -1152921504606846976 ≤ upB p (pkF k) j i ∧ upB p (pkF k) j i ≤ 1152921504606846976 := by rw [hB]; split <;> omega
  have hvb : -1152921504606846976 ≤ bkV p (pkF k) j ∧ bkV p (pkF k) j ≤ 1152921504606846976 := by rw [hv]; split <;> omega
  have hm : mulV (upB p (pkF k) j i) (upX p (pkF k) r j) 44 = 0 ∧ mulH (upB p (pkF k) j i) (upX p (pkF k) r j) 44 = false := by
    by_cases e : j = k
    · rw [hB, if_neg (by omega)]
      exact ⟨mulV_z _ _, mulH_z hx.1 hx.2 (by decide) (by decide)⟩
    · rw [(upX_1 hp hk hr hd hj e).1, mulV_comm, mulH_comm]
      exact ⟨mulV_z _ _, mulH_z hbb.1 hbb.2 (by decide) (by decide)⟩
  unfold upU upRH upUH upBH
  rw [hm.1, hm.2, hu, mulV_z, mulH_z hvb.1 hvb.2 (by decide) (by decide), (addV_0l (by omega) (by omega)).1, (addV_0l (by omega) (by omega)).2, (addV_0l hbb.1 hbb.2).2]
  exact ⟨rfl, rfl⟩
include hp hr hd hk in
theorem upOm_1 {O : Nat → Int} (hO : ∀ x, x < 276 → O x = 0) {j : Nat} (hj : j < 24) : ∀ m, m ≤ j → ∀ x, x < 276 → upOm O p (pkF k) r j m x = 0
  | 0, _, x, hx => by simp only [upOm, upd]; rw [if_neg (by omega)]; exact hO x hx
  | m + 1, hm, x, hx => by
    simp only [upOm, upd]
    split
    · exact (upU_1 hp hk hr hd hj (by omega)).1
    · exact upOm_1 hO hj m (by omega) x hx
include hp hr hd hk in
theorem upO_1 : ∀ j, j ≤ 24 → ∀ x, x < 276 → upO p (pkF k) r j x = 0
  | 0, _, x, hx => hp.1 x hx
  | j + 1, hj, x, hx => by simp only [upO]; exact upOm_1 hp hk hr hd (upO_1 j (by omega)) (by omega) j (Nat.le_refl _) x hx
end
theorem rdiv_abs_le {x d m : Int} (hd : 0 < d) (h1 : x ≤ m * d) (h2 : -(m * d) ≤ x) (hm : 0 ≤ m) : -m ≤ rdiv x d ∧ rdiv x d ≤ m := by
  have h3 := rdiv_le hd (x := -x) (m := m) (by omega) hm
  rw [rdiv_neg1] at h3
  exact ⟨by omega, rdiv_le hd h1 hm⟩
/-- A state by itself, measured by itself. -/
theorem upd_one {p : Nat → Int} (hp : DiagF p) {k : Nat} (hk : k < 24) {r : Int} (hr : 1 ≤ r ∧ r ≤ 72057594037927936) (hd : p (276 + k) ≤ 72057594037927936) :
    (∀ x, x < 276 → updP p (pkF k) r x = 0) ∧ (∀ i, i < 24 → updP p (pkF k) r (276 + i) = if i = k then mdivV (p (276 + k)) r (p (276 + k) + r) else p (276 + i)) ∧
    (∀ i, i < 24 → updG p (pkF k) r i = if i = k then divV (p (276 + k)) (p (276 + k) + r) 30 else 0) ∧ updS p (pkF k) r = p (276 + k) + r ∧
    lkH p (pkF k) r = false ∧ (1048576 ≤ r → updH p (pkF k) r = false) := by
  have hc := cond_diag hp
  have hp' : DiagF (condF p) := ⟨fun x hx => by rw [hc.1 x (by omega)]; exact hp.1 x hx, fun i hi => by rw [hc.1 _ (by omega)]; exact hp.2 i hi⟩
  have hpk : condF p (276 + k) = p (276 + k) := hc.1 _ (by omega)
  have hd' : condF p (276 + k) ≤ 72057594037927936 := by rw [hpk]; exact hd
  have hv := varV_id (a := r) (by omega) (by omega)
  have h := hp.2 k hk
  have hU : ∀ x, x < 276 → -1152921504606846976 ≤ condF p x ∧ condF p x ≤ 1152921504606846976 := fun x hx => condF_U hx
  have hA := bkA_1 hp' hk hr hd' 24 (Nat.le_refl _)
  rw [if_pos hk, hpk] at hA
  have hlk : lkH p (pkF k) r = false := by
    unfold lkH
    rw [satS_pk, hc.2, hv.1, hv.2, orB_no, orB_no]; rfl
    · intro j hj; exact bkS_1 hp' hk hr hd' hj
    · intro i hi; unfold pkF; split; exact satH_one; exact satH_0
  refine ⟨fun x hx => ?_, fun i hi => ?_, fun i hi => ?_, ?_, hlk, fun hr2 => ?_⟩
  · unfold updP; rw [satS_pk, hv.1]; exact upO_1 hp' hk hr hd' 24 (Nat.le_refl _) x hx
  · unfold updP
    rw [satS_pk, hv.1, (upO_at hU 24 (Nat.le_refl _)).1 i hi, if_pos hi, (upDone hp' hk hr hd' hi).1, hpk, hc.1 _ (by omega)]
  · unfold updG upG
    rw [satS_pk, hv.1, upB_1 hp' 24 (Nat.le_refl _) i hi, hA, hpk, Int.add_comm r]
    by_cases e : i = k
    · rw [if_pos ⟨hk, e⟩, if_pos e]
    · rw [if_neg (by omega), if_neg e, divV_z (by rw [satV_id (by omega) (by omega)]; omega)]
  · unfold updS; rw [satS_pk, hv.1, hA, Int.add_comm]
  · unfold updH
    rw [hlk, satS_pk, hv.1, orB_no, orB_no]; rfl
    · intro i hi
      unfold upGH
      rw [upB_1 hp' 24 (Nat.le_refl _) i hi, hA, hpk]
      split
      · unfold divH byH
        rw [satV_id (a := r + p (276 + k)) (by omega) (by omega), satV_id (a := p (276 + k)) (by omega) (by omega), satH_no (a := p (276 + k)) (by omega) (by omega), satH_no (a := r + p (276 + k)) (by omega) (by omega)]
        have h30 : (2 : Int) ^ (30 : Int).toNat = 1073741824 := by decide
        rw [h30]
        have hb := rdiv_abs_le (x := p (276 + k) * 1073741824) (d := r + p (276 + k)) (m := 1073741824) (by omega) (by omega) (by omega) (by decide)
        rw [satH_no (by omega) (by omega)]
        simp; omega
      · exact divH_z (by omega) (by omega) (by decide) (by decide)
    · intro j hj
      unfold upCH
      rw [(upDone hp' hk hr hd' hj).2, orB_no fun i hi => (upU_1 hp' hk hr hd' hj hi).2]
      by_cases e : j = k
      · subst e
        have hA0 := bkA_1 hp' hk hr hd' j (by omega)
        rw [if_neg (by omega)] at hA0
        unfold upXH
        rw [(bkF_1 hp' hk).1, if_pos rfl, hA0]
        unfold divH byH
        rw [satV_one, satV_id (a := r) (by omega) (by omega), satH_one, satH_no (a := r) (by omega) (by omega)]
        have h44 : (1073741824 : Int) * 2 ^ (44 : Int).toNat = 18889465931478580854784 := by decide
        rw [h44]
        have hb := rdiv_abs_le (x := 18889465931478580854784) (d := r) (m := 1152921504606846976) (by omega) (by omega) (by omega) (by decide)
        rw [satH_no (by omega) (by omega)]
        simp; omega
      · rw [(upX_1 hp' hk hr hd' hj e).2]; rfl
end Go.Proofs.Ytkllgphhfkoknaa
/- thornton.Step's answer is good. No program. -/
namespace Go.Proofs.Ytkllgphhfkoknaa
end Go.Proofs.Ytkllgphhfkoknaa
/- Roundings: how far from the quotient. No program. -/
namespace Go.Proofs.Ytkllgphhfkoknaa
def SB (x : Int) : Prop := -1152921504606846976 ≤ x ∧ x ≤ 1152921504606846976
theorem satV_sb {x : Int} (h : SB x) : satV x = x := satV_id h.1 h.2
theorem satH_sb {x : Int} (h : SB x) : satH x = false := satH_no h.1 h.2
theorem rdiv_err {x d : Int} (hd : 0 < d) : -d ≤ 2 * (d * rdiv x d - x) ∧ 2 * (d * rdiv x d - x) ≤ d := by
  have key : ∀ n k : Nat, 0 < k → -(k : Int) ≤ 2 * ((k : Int) * (((2 * n + k) / (2 * k) : Nat) : Int) - n) ∧ 2 * ((k : Int) * (((2 * n + k) / (2 * k) : Nat) : Int) - n) ≤ k := by
    intro n k hk
    have h1 := Nat.div_add_mod (2 * n + k) (2 * k)
    have h2 := Nat.mod_lt (2 * n + k) (show 0 < 2 * k by omega)
    generalize (2 * n + k) / (2 * k) = q at *
    generalize (2 * n + k) % (2 * k) = r at *
    have h3 : ((2 * k * q + r : Nat) : Int) = ((2 * n + k : Nat) : Int) := by rw [h1]
    rw [Int.natCast_add, Int.natCast_mul, Int.natCast_mul, Int.natCast_add, Int.natCast_mul, Int.mul_assoc] at h3
    generalize (k : Int) * (q : Int) = z at *
    omega
  have hk : (d.natAbs : Int) = d := by omega
  have h := key x.natAbs d.natAbs (by omega)
  rw [hk] at h
  unfold rdiv
  by_cases hx : 0 ≤ x
  · rw [if_pos (by simp [hx, hd])]
    rw [show (x.natAbs : Int) = x by omega] at h
    exact h
  · rw [if_neg (by simp [hx, hd])]
    rw [show (x.natAbs : Int) = -x by omega] at h
    rw [Int.mul_neg]
    generalize d * (((2 * x.natAbs + d.natAbs) / (2 * d.natAbs) : Nat) : Int) = z at *
    omega
theorem rsh_err (x : Int) : -1073741824 ≤ 2 * (1073741824 * rsh x 30 - x) ∧ 2 * (1073741824 * rsh x 30 - x) ≤ 1073741824 := by
  have h2 : ((2 : Int) ^ 30) = 1073741824 := by decide
  unfold rsh; rw [h2]
  exact rdiv_err (by decide)
theorem mulV_of {a b : Int} (ha : SB a) (hb : SB b) (h : SB (rsh (a * b) 30)) : mulV a b 30 = rsh (a * b) 30 ∧ mulH a b 30 = false := by
  unfold mulV mulH
  rw [if_neg (by decide), satV_sb ha, satV_sb hb, show (30 : Int).toNat = 30 from rfl, satV_sb h, satH_sb ha, satH_sb hb, satH_sb h]
  exact ⟨rfl, by decide⟩
end Go.Proofs.Ytkllgphhfkoknaa
/- thornton.Step of variances alone, One and one number more: what comes out (plain law, 1). No program. -/
namespace Go.Proofs.Ytkllgphhfkoknaa
def atU (f : Nat → Int) (i m : Nat) : Nat → Int := fun q => uV f i (m + q)
def atX (f : Nat → Int) (j m : Nat) : Nat → Int := fun q => mulV (uV f j (m + q)) (f (276 + (m + q))) 30
def atV (f : Nat → Int) (i j : Nat) : Int := dotV 30 (atU f i (max i j)) (atX f j (max i j)) (24 - max i j)
def atB (f : Nat → Int) (j m : Nat) : Nat → Bool := fun q => mulH (uV f j (m + q)) (f (276 + (m + q))) 30
def atH (f : Nat → Int) (i j : Nat) : Bool := orB (atB f j (max i j)) (24 - max i j) || dotH 30 (atU f i (max i j)) (atX f j (max i j)) (24 - max i j)
end Go.Proofs.Ytkllgphhfkoknaa
/- Part of a block of numbers, loaded or stored as a whole. -/
namespace Go.Proofs.Ytkllgphhfkoknaa
open Go.RowKit
open Go in
theorem run_loadVar_sub {P : Program} {w : World} {g T N : Nat} {f : Nat → Int} (h : Blk w g T N f) (o n : Nat) (hon : o + n ≤ N) (ty : TypeId) (d : TypeDesc)
    (hu : P.underlying ty = some d) (hd : (match d with | .struct _ | .array _ _ => true | _ => false) = true) (hi : (P.info? ty).map (·.size) = some n) :
    (loadVar ty ⟨g, o, none⟩).run P w = .ok (.agg (arrv n (fun i => f (o + i)))) w := by
  have hl : (loadCells ⟨g, o, none⟩ (arrv n (fun i => f (o + i))).toList.length).run P w = .ok (arrv n (fun i => f (o + i))).toList.toArray w :=
    run_loadCells_list (P := P) w ⟨g, o, none⟩ (arrv n (fun i => f (o + i))).toList (fun j v hv => by
      have hadd : (⟨g, o, none⟩ : Addr).add j = ⟨g, o + j, none⟩ := by unfold Addr.add; split <;> simp_all
      have hv' : (arrv n (fun i => f (o + i)))[j]? = some v := by simpa using hv
      have hj : j < n := by
        rcases Nat.lt_or_ge j n with h' | h'
        · exact h'
        · rw [Array.getElem?_eq_none (by rw [arrv_size]; omega)] at hv'; cases hv'
      rw [arrv_get hj] at hv'
      rw [hadd, h.cell (by omega)]; exact hv')
  cases hq : P.info? ty with
  | none => simp [hq] at hi
  | some i =>
    have hs : i.size = n := by simpa [hq] using hi
    have hagg : (isAgg ty).run P w = .ok true w := by
      unfold isAgg
      rw [Sem.run_bind, run_underlying hu w]
      cases d <;> simp_all
    simp only [Array.length_toList, Array.toArray_toList, arrv_size] at hl
    simp [loadVar, Sem.run_bind, hagg, sizeOf, typeInfo, hq, hs, hl]
open Go in
theorem wp_load_sub {P : Program} {o' : Oper} {a : Act} {w : World} {K : Act → World → Prop} {Q : Exit → Act → World → Prop} (ty : TypeId) (x : Operand) (ho : o'.op = .load ty x)
    (g o n : Nat) (hx : a.eval x = .pointer (some ⟨g, o, none⟩)) {T N : Nat} {f : Nat → Int} (h : Blk w g T N f) (hon : o + n ≤ N) (d : TypeDesc)
    (hu : P.underlying ty = some d) (hd : (match d with | .struct _ | .array _ _ => true | _ => false) = true) (hi : (P.info? ty).map (·.size) = some n)
    (hK : K (a.put o'.dst (.agg (arrv n (fun i => f (o + i))))) w) : o'.wp P a w K Q := by
  unfold Oper.wp execOp
  simp only [ho, hx, Instr.loadAt, Instr.sureAddr, Sem.run_bind, Sem.run_pure, Result.andThen_ok, run_loadVar_sub h o n hon ty d hu hd hi]
  exact hK
open Go in
theorem wpList_load_sub {P : Program} {ops : Array Oper} {rest : List Oper} {o' : Oper} {a : Act} {w : World} {Q : Exit → Act → World → Prop} (hgd : o'.guard = none) (ty : TypeId) (x : Operand) (ho : o'.op = .load ty x)
    (g o n : Nat) (hx : a.eval x = .pointer (some ⟨g, o, none⟩)) {T N : Nat} {f : Nat → Int} (h : Blk w g T N f) (hon : o + n ≤ N) (d : TypeDesc)
    (hu : P.underlying ty = some d) (hd : (match d with | .struct _ | .array _ _ => true | _ => false) = true) (hi : (P.info? ty).map (·.size) = some n)
    (hK : wpList P ops Q rest (a.put o'.dst (.agg (arrv n (fun i => f (o + i))))) w) : wpList P ops Q (o' :: rest) a w :=
  wpList_plain hgd fun _ hk => wp_load_sub ty x ho g o n hx h hon d hu hd hi (hk _ _ hK)
end Go.Proofs.Ytkllgphhfkoknaa
