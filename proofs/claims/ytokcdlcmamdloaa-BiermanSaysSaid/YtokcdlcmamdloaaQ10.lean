/- Contracts of the program's functions and plain laws, part 10: they hold for all arguments. -/
import Derived.Test.YtokcdlcmamdloaaQ07
import Derived.Laws.Tables
import Derived.Laws.CopyOwn
import Derived.Test.YtokcdlcmamdloaaQ09
import Derived.Test.YtokcdlcmamdloaaQ03
import Derived.Test.YtokcdlcmamdloaaQ08
/- What a law's walk carries: its own blocks (numbers, flags), and that all that was there is left. -/
namespace Go.Proofs.Ytokcdlcmamdloaa
open Go.RowKit
/-- Block b holds one flag. -/
def Flg (w : World) (b : Nat) (h : Bool) : Prop := w.heap[b]? = some (.cells #[.bool h] 31 (0, 0))
theorem Flg.cell {w : World} {b : Nat} {h : Bool} (f : Flg w b h) : w.cell? ⟨b, 0, none⟩ = some (.bool h) := by
  rw [cell_of_row w b 0 _ _ _ f]; rfl
theorem Flg.free {w : World} {b : Nat} {h : Bool} (f : Flg w b h) : w.frozen? ⟨b, 0, none⟩ = false := frozen_of_row w b 0 _ _ f
theorem Flg.lt {w : World} {b : Nat} {h : Bool} (f : Flg w b h) : b < w.heap.size := by
  rcases Nat.lt_or_ge b w.heap.size with h' | h'
  · exact h'
  · unfold Flg at f; rw [Array.getElem?_eq_none h'] at f; cases f
theorem Flg.below {w w' : World} {b : Nat} {h : Bool} (f : Flg w b h) (hb : Below w.heap.size w w') : Flg w' b h := (hb.block b f.lt).trans f
theorem Flg.alloc {w : World} {b : Nat} {h : Bool} (f : Flg w b h) (o : Obj) : Flg (w.alloc o) b h := f.below ((Below.refl w.heap.size w).alloc (Nat.le_refl _) o)
theorem Flg.other {w : World} {b : Nat} {h : Bool} (f : Flg w b h) {a : Addr} (ha : b ≠ a.block) (v : Value) : Flg (w.setCell a v) b h := (heap_setCell_other w a b v ha).trans f
theorem Flg.row {w : World} {b k : Nat} {h : Bool} (f : Flg w b h) (cs : Array Value) (hk : b ≠ k) : Flg (w.setRow k cs) b h := (Go.setRow_other w k b cs hk).trans f
theorem Flg.new (w : World) (h : Bool) : Flg (w.alloc (.cells #[.bool h] 31)) w.heap.size h := heap_alloc_new w _
theorem Flg.upd {w w' : World} {b : Nat} {h : Bool} (f : Flg w b h) {c : Addr} {v : Bool} (u : Upd c v w w') (hn : b ≠ c.block) : Flg w' b h := (u.block f.lt hn).trans f
/-- Its own flag, raised or not. -/
theorem Flg.hit {w w' : World} {b : Nat} {h h' : Bool} (f : Flg w b h) (u : Upd ⟨b, 0, none⟩ h' w w') : Flg w' b h' := by
  have e : (w.setCell ⟨b, 0, none⟩ (.bool h')).heap[b]? = some (.cells #[.bool h'] 31 (0, 0)) := heap_setCell_same w b 0 _ _ (.bool h') f
  have hl : b < w.heap.size := f.lt
  exact (Below.block u b hl).trans e
theorem Flg.ne {w : World} {b b' : Nat} {h : Bool} {T n : Nat} {f' : Nat → Int} (f : Flg w b h) (k : Blk w b' T n f') : b' ≠ b := k.flag f.cell
/-- Where the flag's cell is new, all that was there is left. -/
theorem own_upd {c : Addr} {h : Bool} {w w1 w2 : World} (b : Below w.heap.size w w1) (hc : w.heap.size ≤ c.block) (u : Upd c h w1 w2) : Below w.heap.size w w2 :=
  b.trans (((Below.refl w.heap.size w1).setCell hc _).trans (Below.mono u b.size))
/-- A block made and filled. -/
theorem Blk.made {w w1 : World} {T n : Nat} {z : Array Value} (hz : z = arrv n (fun _ => 0)) (g : Nat → Int) (e : w1 = (w.alloc (.cells z T)).setRow w.heap.size (arrv n g)) : Blk w1 w.heap.size T n g ∧ Below w.heap.size w w1 := by
  subst e hz
  exact ⟨(Blk.new w T n _).setRow g, below_row ((Below.refl _ _).alloc (Nat.le_refl _) _) (Nat.le_refl _) _⟩
open Go in
/-- An operation of a plain region, by its value. -/
theorem wpList_val {P : Program} {ops : Array Oper} {Q : Exit → Act → World → Prop} {a : Act} {w : World} {rest : List Oper} {o : Oper} {v : Value}
    (hw : Region.wanted o (yielded ops a.tmps) = true) (hy : (execOp a.eval o).run P w = .ok (.value v) w) (h : wpList P ops Q rest (a.put o.dst v) w) : wpList P ops Q (o :: rest) a w :=
  wpList_step fun K hK => by
    rw [if_pos hw]
    unfold Oper.wp
    rw [hy]
    exact hK _ _ h
open Go in
/-- .. that is not wanted. -/
theorem wpList_skip {P : Program} {ops : Array Oper} {Q : Exit → Act → World → Prop} {a : Act} {w : World} {rest : List Oper} {o : Oper}
    (hw : Region.wanted o (yielded ops a.tmps) = false) (h : wpList P ops Q rest (a.put o.dst undef) w) : wpList P ops Q (o :: rest) a w :=
  wpList_step fun K hK => by
    rw [if_neg (by rw [hw]; decide)]
    exact hK _ _ h
open Go in
/-- .. by its value and its world. -/
theorem wpList_act {P : Program} {ops : Array Oper} {Q : Exit → Act → World → Prop} {a : Act} {w w' : World} {rest : List Oper} {o : Oper} {v : Value}
    (hw : Region.wanted o (yielded ops a.tmps) = true) (hy : (execOp a.eval o).run P w = .ok (.value v) w') (h : wpList P ops Q rest (a.put o.dst v) w') : wpList P ops Q (o :: rest) a w :=
  wpList_step fun K hK => by
    rw [if_pos hw]
    unfold Oper.wp
    rw [hy]
    exact hK _ _ h
open Go in
/-- .. by its world. -/
theorem wpList_done {P : Program} {ops : Array Oper} {Q : Exit → Act → World → Prop} {a : Act} {w w' : World} {rest : List Oper} {o : Oper}
    (hw : Region.wanted o (yielded ops a.tmps) = true) (hy : (execOp a.eval o).run P w = .ok .skip w') (h : wpList P ops Q rest (a.put o.dst undef) w') : wpList P ops Q (o :: rest) a w :=
  wpList_step fun K hK => by
    rw [if_pos hw]
    unfold Oper.wp
    rw [hy]
    exact hK _ _ h
open Go in
theorem run_store_row {P : Program} {ev : Operand → Value} {o : Oper} {w : World} (ty : TypeId) (x y : Operand) (ho : o.op = .store ty x y)
    (g : Nat) (hx : ev x = .pointer (some ⟨g, 0, none⟩)) {T n : Nat} {F f : Nat → Int} (hy : ev y = .agg (arrv n F)) (hg : Blk w g T n f) (hi : (P.info? ty).map (·.size) = some n) :
    (execOp ev o).run P w = .ok .skip (w.setRow g (arrv n F)) := by
  unfold execOp
  simp only [ho, hx, hy, Instr.storeAt, Instr.sureAddr, Sem.run_bind, Sem.run_pure, Result.andThen_ok, run_storeVar_row (P := P) w g T ty (arrv n f) (arrv n F) hg (hi.trans (by rw [arrv_size])) (by rw [arrv_size, arrv_size]) (oneCell_arrv n F)]
open Go in
/-- A region that draws its order: from here on a stronger condition holds. -/
theorem wpAnyM_weaken {P : Program} {ops : Array Oper} {Q : Exit → Act → World → Prop} {md : Region.Mode} {L : Nat} {S : World → Prop} (S' : World → Prop) (h : ∀ w, S' w → S w) : ∀ {fuel : Nat} {listed : Array Bool} {a : Act} {w : World}, wpAnyM P md ops Q S' L fuel listed a w → wpAnyM P md ops Q S L fuel listed a w
  | 0, _, _, _, H => H
  | fuel + 1, _, _, _, H => ⟨H.1, fun i hi => wpOp_mono (fun _ w' h' => ⟨h'.1.imp id (h w'), wpAnyM_weaken S' h h'.2⟩) (H.2 i hi)⟩
open Go in
/-- A region that draws its order: one of two may come up. -/
theorem wpAnyM_twoS {P : Program} {ops : Array Oper} {Q : Exit → Act → World → Prop} {md : Region.Mode} {L : Nat} {S : World → Prop} (i j : Nat) {oi oj : Oper} {fuel : Nat} {listed : Array Bool} {a : Act} {w : World} (hi : ops.toList[i]? = some oi) (hj : ops.toList[j]? = some oj) (hr : Region.ready md ops listed = [i, j])
    (h1 : ∀ K : Act → World → Prop, Shut (∀ a w, S w → (S w → wpAnyM P md ops Q S L fuel (listed.setIfInBounds i true) a w) → K a w) →
      if Region.wanted oi (yielded ops a.tmps) = true then Oper.wp P oi a w K Q else K (a.put oi.dst undef) w)
    (h2 : ∀ K : Act → World → Prop, Shut (∀ a w, S w → (S w → wpAnyM P md ops Q S L fuel (listed.setIfInBounds j true) a w) → K a w) →
      if Region.wanted oj (yielded ops a.tmps) = true then Oper.wp P oj a w K Q else K (a.put oj.dst undef) w) :
    wpAnyM P md ops Q S L (fuel + 1) listed a w := by
  have hi' : ops[i]? = some oi := by rwa [Array.getElem?_toList] at hi
  have hj' : ops[j]? = some oj := by rwa [Array.getElem?_toList] at hj
  refine ⟨fun h0 => (by rw [hr] at h0; cases h0), fun k hk => ?_⟩
  rw [hr] at hk
  have hk' : k = i ∨ k = j := by simpa using hk
  rcases hk' with rfl | rfl
  · exact wpOp_step hi' (fun K' hK => h1 K' (fun a w hS hW => hK a w ⟨.inr hS, hW hS⟩))
  · exact wpOp_step hj' (fun K' hK => h2 K' (fun a w hS hW => hK a w ⟨.inr hS, hW hS⟩))
theorem if_pos_of {b : Bool} {p q : Prop} (h : b = true) (hp : p) : if b = true then p else q := by rw [if_pos h]; exact hp
open Go in
theorem wp_of_run {P : Program} {o : Oper} {a : Act} {w w' : World} {K : Act → World → Prop} {Q : Exit → Act → World → Prop} (hy : (execOp a.eval o).run P w = .ok .skip w') (h : K (a.put o.dst undef) w') : Oper.wp P o a w K Q := by
  unfold Oper.wp
  rw [hy]
  exact h
end Go.Proofs.Ytokcdlcmamdloaa
/- A whole row of numbers loaded or stored, inside a region that draws its order. -/
namespace Go.Proofs.Ytokcdlcmamdloaa
open Go.RowKit
set_option maxRecDepth 100000
open Go in
theorem run_load_row {P : Program} {o : Oper} {ev : Operand → Value} {w : World} (ty : TypeId) (x : Operand) (ho : o.op = .load ty x)
    (g : Nat) (hx : ev x = .pointer (some ⟨g, 0, none⟩)) (t : TypeId) (cs : Array Value) (fr : Nat × Nat) (d : TypeDesc) (hg : w.heap[g]? = some (.cells cs t fr))
    (hu : P.underlying ty = some d) (hd : (match d with | .struct _ | .array _ _ => true | _ => false) = true) (hi : (P.info? ty).map (·.size) = some cs.size) :
    (execOp ev o).run P w = .ok (.value (.agg cs)) w := by
  unfold execOp
  simp [ho, hx, Instr.loadAt, Instr.sureAddr, Sem.run_bind, run_loadVar_row (P := P) w g t ty cs fr d hg hu hd hi]
open Go in
theorem run_storeCells_row {P : Program} {w : World} {g T n : Nat} {f : Nat → Int} (F : Nat → Int) (h : Blk w g T n f) :
    (storeCells ⟨g, 0, none⟩ (arrv n F).toList).run P w = .ok () (w.setRow g (arrv n F)) := by
  have e := run_storeCells_at (P := P) g 0 T (arrv n F).toList 0 (arrv n f) w h (by simp [arrv_size]) (fun v hv => (Array.all_eq_true'.1 (oneCell_arrv n F)) v (by simpa using hv))
  rw [e]
  congr 2
  simp only [Nat.zero_add, Nat.add_zero, List.take_zero, List.nil_append, Array.length_toList, arrv_size]
  rw [List.drop_of_length_le (by simp [arrv_size]), List.append_nil, Array.toArray_toList]
theorem icol : (Try.prog.info? 23).map (·.size) = some 24 := by kernel_rfl
/-- A slice of int64: n numbers from a pointer, or none. -/
def Slc (w : World) (p : Option Addr) (n : Nat) (L : Nat → Int) : Prop := ∀ i, i < n → ∃ b o, p = some ⟨b, o, none⟩ ∧ w.cell? ⟨b, o + i, none⟩ = some (.int .i64 (L i))
theorem Slc.below {w w' : World} {p : Option Addr} {n : Nat} {L : Nat → Int} (h : Slc w p n L) (b : Below w.heap.size w w') : Slc w' p n L := fun i hi => by
  obtain ⟨k, o, rfl, hc⟩ := h i hi
  exact ⟨k, o, rfl, (b.cell (World.block_lt_of_cell? _ _ hc)).trans hc⟩
section
open Go
theorem foldl_set (l : List Value) : ∀ (k : Nat) (cs : Array Value), k + l.length ≤ cs.size → ∀ i,
    ((l.zipIdx k).foldl (fun (cs : Array Value) (x : Value × Nat) => cs.setIfInBounds (0 + x.2) x.1) cs)[i]? = if k ≤ i ∧ i < k + l.length then l[i - k]? else cs[i]? := by
  induction l with
  | nil => intro k cs _ i; simp; intro h; omega
  | cons v l ih =>
    intro k cs h i
    simp only [List.zipIdx_cons, List.foldl_cons, List.length_cons] at h ⊢
    rw [ih (k + 1) _ (by simp; omega) i]
    by_cases h1 : k + 1 ≤ i ∧ i < k + 1 + l.length
    · rw [if_pos h1, if_pos (by omega), show i - k = (i - (k + 1)) + 1 by omega, List.getElem?_cons_succ]
    · rw [if_neg h1]
      by_cases h2 : i = k
      · subst h2
        rw [if_pos (by omega), Nat.sub_self, Nat.zero_add]
        simp [show i < cs.size by omega]
      · rw [if_neg (by omega), Nat.zero_add, Array.getElem?_setIfInBounds, if_neg (by omega)]
theorem fill_one (pl : Nat → Option (Nat × Nat)) (cs V : Array Value) (n : Nat) (hn : V.size = n) (hp : pl 0 = some (0, n)) (hs : V.size ≤ cs.size) :
    Instr.fill pl cs [(0, .agg V)] = some (V.toList.zipIdx.foldl (fun (cs : Array Value) (x : Value × Nat) => cs.setIfInBounds (0 + x.2) x.1) cs) := by
  have hc : (Value.agg V).cells = V := rfl
  unfold Instr.fill
  simp only [hp, hc]
  rw [if_neg (by simp [hn]; omega)]
  unfold Instr.fill
  rw [← Array.foldl_toList, Array.toList_zipIdx]
theorem fill_first (pl : Nat → Option (Nat × Nat)) (n m : Nat) (f : Nat → Int) (hp : pl 0 = some (0, n)) :
    Instr.fill pl (arrv (n + m) (fun _ => 0)) [(0, .agg (arrv n f))] = some (arrv (n + m) (fun x => if x < n then f x else 0)) := by
  rw [fill_one pl _ (arrv n f) n (arrv_size ..) hp (by rw [arrv_size, arrv_size]; omega)]
  apply congrArg some
  apply Array.ext_getElem?
  intro i
  refine Eq.trans (foldl_set (arrv n f).toList 0 (arrv (n + m) (fun _ => 0)) (by simp [arrv_size]) i) ?_
  simp only [Array.length_toList, arrv_size, Nat.zero_le, true_and, Nat.zero_add, Nat.sub_zero, Array.getElem?_toList]
  by_cases h3 : i < n
  · rw [if_pos h3, arrv_get h3, arrv_get (by omega), if_pos h3]
  · rw [if_neg h3]
    by_cases h4 : i < n + m
    · rw [arrv_get h4, arrv_get h4, if_neg h3]
    · rw [Array.getElem?_eq_none (by rw [arrv_size]; omega), Array.getElem?_eq_none (by rw [arrv_size]; omega)]
end
end Go.Proofs.Ytokcdlcmamdloaa
/- The reference's Step: what it keeps, number by number. -/
namespace Go.Proofs.Ytokcdlcmamdloaa
open Go.RowKit
set_option maxRecDepth 100000
/-- The blocks of the call. -/
structure RsA (c : Addr) (h : Bool) (P Q : Nat → Int) (w wr : World) : Prop where
  upd : Upd c h w wr
  pB : Blk wr w.heap.size 25 300 P
  qB : Blk wr (w.heap.size + 1) 23 24 Q
  rB : Blk wr (w.heap.size + 1 + 1) 25 300 (fun _ => 0)
theorem RsA.upd' {c : Addr} {h h' : Bool} {P Q : Nat → Int} {w wr w' : World} (s : RsA c h P Q w wr) (hc : c.block < w.heap.size) (u : Upd c h' wr w') : RsA c h' P Q w w' :=
  ⟨s.upd.trans u, s.pB.upd u (by omega), s.qB.upd u (by omega), s.rB.upd u (by omega)⟩
theorem RsA.below {c : Addr} {h : Bool} {P Q : Nat → Int} {w wr w' : World} (s : RsA c h P Q w wr) (b : Below wr.heap.size wr w') : RsA c h P Q w w' :=
  ⟨s.upd.then b, s.pB.below b, s.qB.below b, s.rB.below b⟩
theorem RsA.other {c : Addr} {h : Bool} {P Q : Nat → Int} {w wr : World} (s : RsA c h P Q w wr) {b o : Nat} (hb : w.heap.size + 2 < b) (v : Value) : RsA c h P Q w (wr.setCell ⟨b, o, none⟩ v) :=
  ⟨s.upd.setCell (by simp; omega) _, s.pB.other (by simp; omega) _, s.qB.other (by simp; omega) _, s.rB.other (by simp; omega) _⟩
theorem RsA.far {c : Addr} {h : Bool} {P Q : Nat → Int} {w wr : World} (s : RsA c h P Q w wr) : w.heap.size + 2 < wr.heap.size := s.rB.lt
/-- cols: of columns below k all, of column k the first i. -/
def clS (P : Nat → Int) (k i : Nat) : Nat → Int := fun x => if x / 24 < k ∨ (x / 24 = k ∧ x % 24 < i) then colF P (x / 24) (x % 24) else 0
def qS (q : Nat → Int) (k : Nat) : Nat → Int := fun x => if x < k then qV (q x) else q x
/-- Of what is to be orthogonalised the rows below i, and of row i the first k. -/
def wS (P F : Nat → Int) (i k : Nat) : Nat → Int := fun x => if x / 48 < i then rowsW P F x else if x / 48 = i ∧ x % 48 < k then rwV P F i (x % 48) else 0
/-- The flags of a row. -/
def rrH (P F G : Nat → Int) (i : Nat) : Bool := orB (fun k => satH (F (i * 24 + k))) 24 || orB (fun k => rwB P G i k) 24
theorem iy48 : (Try.prog.info? 62).map (·.size) = some 48 := by kernel_rfl
theorem zmat2 : Try.zeroCells26 = arrv 576 (fun _ => 0) := by kernel_rfl
structure RsB (c : Addr) (h : Bool) (P Q : Nat → Int) (cb wb eb : Nat) (C W E : Nat → Int) (w wr : World) : Prop where
  a : RsA c h P Q w wr
  cB : Blk wr cb 26 576 C
  wB : Blk wr wb 74 1152 W
  eB : Blk wr eb 62 48 E
  ord : w.heap.size + 2 < cb ∧ cb < wb ∧ wb < eb
theorem RsB.upd' {c : Addr} {h h' : Bool} {P Q : Nat → Int} {cb wb eb : Nat} {C W E : Nat → Int} {w wr w' : World} (s : RsB c h P Q cb wb eb C W E w wr) (hc : c.block < w.heap.size) (u : Upd c h' wr w') : RsB c h' P Q cb wb eb C W E w w' :=
  ⟨s.a.upd' hc u, s.cB.upd u (by have := s.ord; omega), s.wB.upd u (by have := s.ord; omega), s.eB.upd u (by have := s.ord; omega), s.ord⟩
theorem RsB.below {c : Addr} {h : Bool} {P Q : Nat → Int} {cb wb eb : Nat} {C W E : Nat → Int} {w wr w' : World} (s : RsB c h P Q cb wb eb C W E w wr) (b : Below wr.heap.size wr w') : RsB c h P Q cb wb eb C W E w w' :=
  ⟨s.a.below b, s.cB.below b, s.wB.below b, s.eB.below b, s.ord⟩
theorem RsB.other {c : Addr} {h : Bool} {P Q : Nat → Int} {cb wb eb : Nat} {C W E : Nat → Int} {w wr : World} (s : RsB c h P Q cb wb eb C W E w wr) {b o : Nat} (hb : eb < b) (v : Value) : RsB c h P Q cb wb eb C W E w (wr.setCell ⟨b, o, none⟩ v) :=
  ⟨s.a.other (by have := s.ord; omega) v, s.cB.other (by have := s.ord; simp; omega) _, s.wB.other (by have := s.ord; simp; omega) _, s.eB.other (by simp; omega) _, s.ord⟩
theorem RsB.setW {c : Addr} {h : Bool} {P Q : Nat → Int} {cb wb eb : Nat} {C W E : Nat → Int} {w wr : World} (s : RsB c h P Q cb wb eb C W E w wr) (o : Nat) (v : Int) : RsB c h P Q cb wb eb C (upd W o v) E w (wr.setCell ⟨wb, o, none⟩ (.int .i64 v)) :=
  ⟨s.a.other (by have := s.ord; omega) _, s.cB.other (by have := s.ord; simp; omega) _, s.wB.set _ _, s.eB.other (by have := s.ord; simp; omega) _, s.ord⟩
theorem RsB.setE {c : Addr} {h : Bool} {P Q : Nat → Int} {cb wb eb : Nat} {C W E : Nat → Int} {w wr : World} (s : RsB c h P Q cb wb eb C W E w wr) (o : Nat) (v : Int) : RsB c h P Q cb wb eb C W (upd E o v) w (wr.setCell ⟨eb, o, none⟩ (.int .i64 v)) :=
  ⟨s.a.other (by have := s.ord; omega) _, s.cB.other (by have := s.ord; simp; omega) _, s.wB.other (by have := s.ord; simp; omega) _, s.eB.set _ _, s.ord⟩
theorem RsB.cong {c : Addr} {h : Bool} {P Q : Nat → Int} {cb wb eb : Nat} {C W W' E E' : Nat → Int} {w wr : World} (s : RsB c h P Q cb wb eb C W E w wr) (hW : ∀ i, i < 1152 → W i = W' i) (hE : ∀ i, i < 48 → E i = E' i) : RsB c h P Q cb wb eb C W' E' w wr :=
  ⟨s.a, s.cB, s.wB.congr hW, s.eB.congr hE, s.ord⟩
/-- What holds while the reference's rows are eliminated. -/
structure StQ (c : Addr) (h : Bool) (eb wb ob : Nat) (E W O : Nat → Int) (w wr : World) : Prop where
  upd : Upd c h w wr
  eB : Blk wr eb 62 48 E
  wB : Blk wr wb 74 1152 W
  oB : Blk wr ob 25 300 O
  rB : Blk wr (w.heap.size + 1 + 1) 25 300 (fun _ => 0)
theorem StQ.upd' {c : Addr} {h h' : Bool} {eb wb ob : Nat} {E W O : Nat → Int} {w wr w' : World} (s : StQ c h eb wb ob E W O w wr) (hc : c.block < w.heap.size) (h1 : w.heap.size ≤ eb) (h2 : w.heap.size ≤ wb) (h3 : w.heap.size ≤ ob) (u : Upd c h' wr w') : StQ c h' eb wb ob E W O w w' :=
  ⟨s.upd.trans u, s.eB.upd u (by omega), s.wB.upd u (by omega), s.oB.upd u (by omega), s.rB.upd u (by omega)⟩
theorem StQ.below {c : Addr} {h : Bool} {eb wb ob : Nat} {E W O : Nat → Int} {w wr w' : World} (s : StQ c h eb wb ob E W O w wr) (b : Below wr.heap.size wr w') : StQ c h eb wb ob E W O w w' :=
  ⟨s.upd.then b, s.eB.below b, s.wB.below b, s.oB.below b, s.rB.below b⟩
theorem StQ.other {c : Addr} {h : Bool} {eb wb ob : Nat} {E W O : Nat → Int} {w wr : World} (s : StQ c h eb wb ob E W O w wr) {b o : Nat} (n0 : w.heap.size ≤ b) (n1 : b ≠ eb) (n2 : b ≠ wb) (n3 : b ≠ ob) (n4 : b ≠ w.heap.size + 1 + 1) (v : Value) : StQ c h eb wb ob E W O w (wr.setCell ⟨b, o, none⟩ v) :=
  ⟨s.upd.setCell n0 _, s.eB.other (by simp; omega) _, s.wB.other (by simp; omega) _, s.oB.other (by simp; omega) _, s.rB.other (by simp; omega) _⟩
end Go.Proofs.Ytokcdlcmamdloaa
/- A region that draws its order: behind its last call another fact about the world may be taken up. -/
namespace Go.Proofs.Ytokcdlcmamdloaa
open Go
theorem getD_keeps {listed : Array Bool} {i L : Nat} (h : listed.getD L false = true) : (listed.setIfInBounds i true).getD L false = true := by
  by_cases hi : i = L
  · subst hi
    rcases Nat.lt_or_ge i listed.size with h' | h'
    · simp [h']
    · simp [Array.getElem?_eq_none h'] at h
  · rw [getD_set_ne' false hi]; exact h
theorem wpAnyM_of_any {P : Program} {md : Region.Mode} {ops : Array Oper} {Q : Exit → Act → World → Prop} {S : World → Prop} {L : Nat} : ∀ (fuel : Nat) (listed : Array Bool) (a : Act) (w : World), listed.getD L false = true → wpAny P md ops Q fuel listed a w → wpAnyM P md ops Q S L fuel listed a w
  | 0, _, _, _, _, h => h
  | fuel + 1, _, _, _, hL, h => ⟨h.1, fun i hi => wpOp_mono (fun a' w' h' => ⟨.inl (getD_keeps hL), wpAnyM_of_any fuel _ a' w' (getD_keeps hL) h'⟩) (h.2 i hi)⟩
theorem wpAnyM_switch {P : Program} {md : Region.Mode} {ops : Array Oper} {Q : Exit → Act → World → Prop} {S : World → Prop} {L : Nat} (S' : World → Prop) (L' : Nat) {fuel : Nat} {listed : Array Bool} {a : Act} {w : World}
    (hL : listed.getD L false = true) (hS : S' w) (h : S' w → wpAnyM P md ops Q S' L' fuel listed a w) : wpAnyM P md ops Q S L fuel listed a w :=
  wpAnyM_of_any fuel listed a w hL (wpAny_of_M fuel listed a w (h hS))
/-- Take number i first: x waits for it, and L for x. -/
theorem wpAnyM_first2 {P : Program} {md : Region.Mode} {ops : Array Oper} {Q : Exit → Act → World → Prop} {S : World → Prop} {L : Nat} {i x : Nat} {oi : Oper} {v : Value} (hi : ops[i]? = some oi) (hsel : ∀ (j : Nat) (o : Oper) cs b, ops[j]? = some o → o.op ≠ .select cs b)
    (hQ : ∀ c a w, Q (.panic c) (a.put oi.dst v) w → Q (.panic c) a w) (hiL : i ≠ L) (hiX : i ≠ x)
    (hX : Region.waitsFor md ops x i = true) (hL : Region.waitsFor md ops L x = true) :
    ∀ (fuel : Nat) (listed : Array Bool) (a : Act) (w : World), listed.getD L false = false → listed.getD x true = false →
      (∀ j oj, ops[j]? = some oj → j ≠ i → listed.getD j true = false → (∀ e ∈ oj.after, Region.binds md e = true → e.on ≠ i) → oi.apart ops oj = true) →
      i ∈ Region.ready md ops listed → YieldsIf P ops S oi v a → S w →
      wpAnyM P md ops Q S L fuel (listed.setIfInBounds i true) (a.put oi.dst v) w → wpAnyM P md ops Q S L (fuel + 1) listed a w := by
  intro fuel
  induction fuel with
  | zero =>
    intro listed a w _ _ _ hr hy hGw H
    refine ⟨fun h => (by rw [h] at hr; cases hr), fun j hj => ?_⟩
    by_cases hji : j = i
    · subst hji; exact hy.wpOp hi hGw ⟨.inr hGw, H⟩
    · have := ready_mono hj hji
      rw [H.1] at this
      cases this
  | succ fuel ih =>
    intro listed a w hLw hXw hfree hr hy hGw H
    refine ⟨fun h => (by rw [h] at hr; cases hr), fun j hj => ?_⟩
    by_cases hji : j = i
    · subst hji; exact hy.wpOp hi hGw ⟨.inr hGw, H⟩
    · have h1 := H.2 j (ready_mono hj hji)
      obtain ⟨hjun, oj, hoj, hall⟩ := mem_ready.1 hj
      have hiun := (mem_ready.1 hr).1
      have hnot : ∀ e ∈ oj.after, Region.binds md e = true → e.on ≠ i := fun e he hb heq => by
        have h2 := hall e he hb
        rw [heq] at h2
        exact getD_of_ready hiun h2
      have hjX : j ≠ x := fun e => by
        subst e
        obtain ⟨oX, hoX, e, he, hb, hon⟩ := Region.waitsFor_spec hX
        have : oX = oj := Option.some.inj (hoX.symm.trans hoj)
        subst this
        exact hnot e he hb hon
      have hjL : j ≠ L := fun e => by
        subst e
        obtain ⟨oL, hoL, e, he, hb, hon⟩ := Region.waitsFor_spec hL
        have : oL = oj := Option.some.inj (hoL.symm.trans hoj)
        subst this
        have h2 := hall e he hb
        rw [hon] at h2
        exact getD_of_ready hXw h2
      have h2 := wpOp_putIf hoj (hfree j oj hoj hji hjun hnot) (fun cs b => hsel i oi cs b hi) (fun cs b => hsel j oj cs b hoj) hQ hy h1
      have hfree' : ∀ k ok, ops[k]? = some ok → k ≠ i → (listed.setIfInBounds j true).getD k true = false →
          (∀ e ∈ ok.after, Region.binds md e = true → e.on ≠ i) → oi.apart ops ok = true := fun k ok hk hki hun hno => by
        refine hfree k ok hk hki ?_ hno
        by_cases hjk : j = k
        · subst hjk; exact hjun
        · rw [getD_set_ne true hjk] at hun; exact hun
      refine wpOp_mono (fun a' w' h3 => ?_) h2
      have hL' : (listed.setIfInBounds j true).getD L false = false := by rw [getD_set_ne' _ hjL]; exact hLw
      have hX' : (listed.setIfInBounds j true).getD x true = false := by rw [getD_set_ne' _ hjX]; exact hXw
      have hS' : S w' := by
        refine h3.2.1.resolve_left fun h => ?_
        rw [Array.setIfInBounds_comm _ _ (Ne.symm hji), getD_set_ne' _ hiL, hL'] at h
        cases h
      refine ⟨.inr hS', ih (listed.setIfInBounds j true) a' w' hL' hX' hfree' (ready_mono hr (Ne.symm hji)) h3.1 hS' ?_⟩
      rw [Array.setIfInBounds_comm _ _ hji]
      exact h3.2.2
theorem wpAnyM_take2 (x : Nat) (i : Nat) {P : Program} {md : Region.Mode} {ops : Array Oper} {Q : Exit → Act → World → Prop} {S : World → Prop} {L : Nat} {oi : Oper} {v : Value} {fuel : Nat} {listed : Array Bool} {a : Act} {w : World} (hi' : ops.toList[i]? = some oi)
    (hk : (Region.noSelect ops && (Region.free md ops listed i && ((Region.ready md ops listed).contains i && (Region.waitsFor md ops x i && (Region.waitsFor md ops L x && (!listed.getD L false && (!listed.getD x true && (!(i == L) && !(i == x))))))))) = true)
    (hQ : ∀ c a w, Q (.panic c) (a.put oi.dst v) w → Q (.panic c) a w) (hy : YieldsIf P ops S oi v a) (hS : S w)
    (h : wpAnyM P md ops Q S L fuel (listed.setIfInBounds i true) (a.put oi.dst v) w) : wpAnyM P md ops Q S L (fuel + 1) listed a w := by
  have hi : ops[i]? = some oi := by rwa [Array.getElem?_toList] at hi'
  simp only [Bool.and_eq_true, Bool.not_eq_true'] at hk
  obtain ⟨k1, k2, k3, k4, k5, k6, k7, k8, k9⟩ := hk
  exact wpAnyM_first2 hi (Region.noSelect_spec k1) hQ (by simpa using k8) (by simpa using k9) k4 k5 fuel listed a w k6 k7 (Region.free_spec hi k2) (by simpa using k3) hy hS h
/-- Take number i first: those of X wait for it or for one of X, and L is of X. -/
theorem wpAnyM_firstX {P : Program} {md : Region.Mode} {ops : Array Oper} {Q : Exit → Act → World → Prop} {S : World → Prop} {L : Nat} {i : Nat} (X : List Nat) {oi : Oper} {v : Value} (hi : ops[i]? = some oi) (hsel : ∀ (j : Nat) (o : Oper) cs b, ops[j]? = some o → o.op ≠ .select cs b)
    (hQ : ∀ c a w, Q (.panic c) (a.put oi.dst v) w → Q (.panic c) a w) (hiX : i ∉ X) (hLX : L ∈ X)
    (hX : ∀ x, x ∈ X → Region.waitsFor md ops x i = true ∨ ∃ z, z ∈ X ∧ Region.waitsFor md ops x z = true) :
    ∀ (fuel : Nat) (listed : Array Bool) (a : Act) (w : World), (∀ x, x ∈ X → listed.getD x true = false) →
      (∀ j oj, ops[j]? = some oj → j ≠ i → listed.getD j true = false → (∀ e ∈ oj.after, Region.binds md e = true → e.on ≠ i) → oi.apart ops oj = true) →
      i ∈ Region.ready md ops listed → YieldsIf P ops S oi v a → S w →
      wpAnyM P md ops Q S L fuel (listed.setIfInBounds i true) (a.put oi.dst v) w → wpAnyM P md ops Q S L (fuel + 1) listed a w := by
  have hiL : i ≠ L := fun e => hiX (e ▸ hLX)
  intro fuel
  induction fuel with
  | zero =>
    intro listed a w _ _ hr hy hGw H
    refine ⟨fun h => (by rw [h] at hr; cases hr), fun j hj => ?_⟩
    by_cases hji : j = i
    · subst hji; exact hy.wpOp hi hGw ⟨.inr hGw, H⟩
    · have := ready_mono hj hji
      rw [H.1] at this
      cases this
  | succ fuel ih =>
    intro listed a w hXw hfree hr hy hGw H
    refine ⟨fun h => (by rw [h] at hr; cases hr), fun j hj => ?_⟩
    by_cases hji : j = i
    · subst hji; exact hy.wpOp hi hGw ⟨.inr hGw, H⟩
    · have h1 := H.2 j (ready_mono hj hji)
      obtain ⟨hjun, oj, hoj, hall⟩ := mem_ready.1 hj
      have hiun := (mem_ready.1 hr).1
      have hnot : ∀ e ∈ oj.after, Region.binds md e = true → e.on ≠ i := fun e he hb heq => by
        have h2 := hall e he hb
        rw [heq] at h2
        exact getD_of_ready hiun h2
      have hjX : j ∉ X := fun hjx => by
        rcases hX j hjx with h | ⟨z, hz, h⟩
        · obtain ⟨oX, hoX, e, he, hb, hon⟩ := Region.waitsFor_spec h
          have : oX = oj := Option.some.inj (hoX.symm.trans hoj)
          subst this
          exact hnot e he hb hon
        · obtain ⟨oX, hoX, e, he, hb, hon⟩ := Region.waitsFor_spec h
          have : oX = oj := Option.some.inj (hoX.symm.trans hoj)
          subst this
          have h2 := hall e he hb
          rw [hon] at h2
          exact getD_of_ready (hXw z hz) h2
      have hjL : j ≠ L := fun e => hjX (e ▸ hLX)
      have h2 := wpOp_putIf hoj (hfree j oj hoj hji hjun hnot) (fun cs b => hsel i oi cs b hi) (fun cs b => hsel j oj cs b hoj) hQ hy h1
      have hfree' : ∀ k ok, ops[k]? = some ok → k ≠ i → (listed.setIfInBounds j true).getD k true = false →
          (∀ e ∈ ok.after, Region.binds md e = true → e.on ≠ i) → oi.apart ops ok = true := fun k ok hk hki hun hno => by
        refine hfree k ok hk hki ?_ hno
        by_cases hjk : j = k
        · subst hjk; exact hjun
        · rw [getD_set_ne true hjk] at hun; exact hun
      refine wpOp_mono (fun a' w' h3 => ?_) h2
      have hX' : ∀ x, x ∈ X → (listed.setIfInBounds j true).getD x true = false := fun x hx => by
        have hne : j ≠ x := fun e => by rw [e] at hjX; exact hjX hx
        rw [getD_set_ne' true hne]; exact hXw x hx
      have hS' : S w' := by
        refine h3.2.1.resolve_left fun h => ?_
        rw [Array.setIfInBounds_comm _ _ (Ne.symm hji), getD_set_ne' _ hiL] at h
        exact getD_of_ready (hX' L hLX) h
      refine ⟨.inr hS', ih (listed.setIfInBounds j true) a' w' hX' hfree' (ready_mono hr (Ne.symm hji)) h3.1 hS' ?_⟩
      rw [Array.setIfInBounds_comm _ _ hji]
      exact h3.2.2
theorem wpAnyM_takeX (X : List Nat) (i : Nat) {P : Program} {md : Region.Mode} {ops : Array Oper} {Q : Exit → Act → World → Prop} {S : World → Prop} {L : Nat} {oi : Oper} {v : Value} {fuel : Nat} {listed : Array Bool} {a : Act} {w : World} (hi' : ops.toList[i]? = some oi)
    (hk : (Region.noSelect ops && (Region.free md ops listed i && ((Region.ready md ops listed).contains i && (!X.contains i && (X.contains L && (X.all (fun x => (Region.waitsFor md ops x i || X.any fun z => Region.waitsFor md ops x z)) && X.all fun x => !listed.getD x true)))))) = true)
    (hQ : ∀ c a w, Q (.panic c) (a.put oi.dst v) w → Q (.panic c) a w) (hy : YieldsIf P ops S oi v a) (hS : S w)
    (h : wpAnyM P md ops Q S L fuel (listed.setIfInBounds i true) (a.put oi.dst v) w) : wpAnyM P md ops Q S L (fuel + 1) listed a w := by
  have hi : ops[i]? = some oi := by rwa [Array.getElem?_toList] at hi'
  simp only [Bool.and_eq_true, Bool.not_eq_true'] at hk
  obtain ⟨k1, k2, k3, k4, k5, k6, k7⟩ := hk
  refine wpAnyM_firstX X hi (Region.noSelect_spec k1) hQ (by simpa using k4) (by simpa using k5) (fun x hx => ?_) fuel listed a w (fun x hx => ?_) (Region.free_spec hi k2) (by simpa using k3) hy hS h
  · have := (List.all_eq_true.1 k6) x hx
    rw [Bool.or_eq_true] at this
    refine this.imp id fun h => ?_
    obtain ⟨z, hz, hz2⟩ := List.any_eq_true.1 h
    exact ⟨z, hz, hz2⟩
  · have := (List.all_eq_true.1 k7) x hx
    simpa using this
end Go.Proofs.Ytokcdlcmamdloaa
/- bierman's numbers: what an update reckons with, and what it makes. No program. -/
namespace Go.Proofs.Ytokcdlcmamdloaa
/-- The first n numbers clamped, the others as they were. -/
def satS (H : Nat → Int) (n : Nat) : Nat → Int := fun i => if i < n then satV (H i) else H i
/-- Of the factors p (conditioned) and the row h (clamped): f, v, a. -/
def bkF (p h : Nat → Int) (j : Nat) : Int := dotV 30 h (colF p j) (j + 1)
def bkV (p h : Nat → Int) (j : Nat) : Int := mulV (p (276 + j)) (bkF p h j) 30
def bkA (p h : Nat → Int) (r : Int) : Nat → Int | 0 => r | j + 1 => addV (bkA p h r j) (mulV (bkF p h j) (bkV p h j) 30)
def bkFH (p h : Nat → Int) (j : Nat) : Bool := dotH 30 h (colF p j) (j + 1)
def bkVH (p h : Nat → Int) (j : Nat) : Bool := mulH (p (276 + j)) (bkF p h j) 30
def bkAH (p h : Nat → Int) (r : Int) (j : Nat) : Bool := mulH (bkF p h j) (bkV p h j) 30 || addH (bkA p h r j) (mulV (bkF p h j) (bkV p h j) 30)
def bkS (p h : Nat → Int) (r : Int) (j : Nat) : Bool := bkFH p h j || bkVH p h j || bkAH p h r j
/-- What look tells: 300 numbers of the factors, then f, v (24 each), a (25). -/
def lkP (p : Nat → Int) : Nat → Int := condF p
def lkH (p h : Nat → Int) (r : Int) : Bool := condH p || orB (fun i => satH (h i)) 24 || varH r || orB (bkS (condF p) (satS h 24) (varV r)) 24
/-- Update: row j of the gains' numbers, and the factors. -/
def upX (p h : Nat → Int) (r : Int) (j : Nat) : Int := -divV (bkF p h j) (bkA p h r j) 44
def upD (p h : Nat → Int) (r : Int) (j : Nat) : Int := varV (mdivV (p (276 + j)) (bkA p h r j) (bkA p h r (j + 1)))
/-- b, when j columns are done and of column j the first m rows. -/
def upB (p h : Nat → Int) : Nat → Nat → Int
  | 0 => fun _ => 0
  | j + 1 => fun i => if i = j then bkV p h j else if i < j then addV (upB p h j i) (mulV (uV p i j) (bkV p h j) 30) else upB p h j i
def upBm (p h : Nat → Int) (j m : Nat) : Nat → Int :=
  fun i => if i = j then bkV p h j else if i < m then addV (upB p h j i) (mulV (uV p i j) (bkV p h j) 30) else upB p h j i
def upU (p h : Nat → Int) (r : Int) (j i : Nat) : Int := addV (uV p i j) (mulV (upB p h j i) (upX p h r j) 44)
/-- The factors: column j begun, and m of its numbers made. -/
def upOm (O p h : Nat → Int) (r : Int) (j : Nat) : Nat → Nat → Int | 0 => upd O (276 + j) (upD p h r j) | m + 1 => upd (upOm O p h r j m) (pl m j) (upU p h r j m)
def upO (p h : Nat → Int) (r : Int) : Nat → Nat → Int | 0 => p | j + 1 => upOm (upO p h r j) p h r j j
def upDH (p h : Nat → Int) (r : Int) (j : Nat) : Bool := mdivH (p (276 + j)) (bkA p h r j) (bkA p h r (j + 1)) || varH (mdivV (p (276 + j)) (bkA p h r j) (bkA p h r (j + 1)))
def upXH (p h : Nat → Int) (r : Int) (j : Nat) : Bool := divH (bkF p h j) (bkA p h r j) 44
def upUH (p h : Nat → Int) (r : Int) (j i : Nat) : Bool := mulH (upB p h j i) (upX p h r j) 44 || addH (uV p i j) (mulV (upB p h j i) (upX p h r j) 44)
def upBH (p h : Nat → Int) (j i : Nat) : Bool := mulH (uV p i j) (bkV p h j) 30 || addH (upB p h j i) (mulV (uV p i j) (bkV p h j) 30)
def upRH (p h : Nat → Int) (r : Int) (j i : Nat) : Bool := upUH p h r j i || upBH p h j i
def upCH (p h : Nat → Int) (r : Int) (j : Nat) : Bool := upDH p h r j || upXH p h r j || orB (upRH p h r j) j
def upG (p h : Nat → Int) (r : Int) (i : Nat) : Int := divV (upB p h 24 i) (bkA p h r 24) 30
def upGH (p h : Nat → Int) (r : Int) (i : Nat) : Bool := divH (upB p h 24 i) (bkA p h r 24) 30
/-- Update's answer, of what was given. -/
def updP (p h : Nat → Int) (r : Int) : Nat → Int := upO (condF p) (satS h 24) (varV r) 24
def updG (p h : Nat → Int) (r : Int) : Nat → Int := upG (condF p) (satS h 24) (varV r)
def updS (p h : Nat → Int) (r : Int) : Int := bkA (condF p) (satS h 24) (varV r) 24
def updH (p h : Nat → Int) (r : Int) : Bool := lkH p h r || orB (upCH (condF p) (satS h 24) (varV r)) 24 || orB (upGH (condF p) (satS h 24) (varV r)) 24
end Go.Proofs.Ytokcdlcmamdloaa
/- The reference's prepared: what an update reckons with. -/
namespace Go.Proofs.Ytokcdlcmamdloaa
open Go.RowKit
set_option maxRecDepth 100000
theorem z25 : (#[.int .i64 0, .int .i64 0, .int .i64 0, .int .i64 0, .int .i64 0, .int .i64 0, .int .i64 0, .int .i64 0, .int .i64 0, .int .i64 0, .int .i64 0, .int .i64 0, .int .i64 0, .int .i64 0, .int .i64 0, .int .i64 0, .int .i64 0, .int .i64 0, .int .i64 0, .int .i64 0, .int .i64 0, .int .i64 0, .int .i64 0, .int .i64 0, .int .i64 0] : Array Value) = arrv 25 (fun _ => 0) := by kernel_rfl
theorem ia25 : (Try.prog.info? 78).map (·.size) = some 25 := by kernel_rfl
theorem colu : Try.prog.underlying 23 = some (.array (Try.prog.arrayLen 23) (Try.prog.elem 23)) := by kernel_rfl
theorem collen : Try.prog.arrayLen 23 = 24 := by kernel_rfl
open Go in
/-- h[:n] of an array of 24. -/
theorem run_slice_col {o : Oper} {ev : Operand → Value} {w : World} (x y : Operand) (ho : o.op = .slice 23 x none (some y) none) (g : Nat) (hx : ev x = .pointer (some ⟨g, 0, none⟩))
    (z : Int) (hy : ev y = .int .i64 z) (n : Nat) (hz : z = n) (hn : n ≤ 24) : (execOp ev o).run Try.prog w = .ok (.value (.slice (some ⟨g, 0, none⟩) n 24)) w := by
  have h := run_sliceAt_array_h (P := Try.prog) w 23 ⟨g, 0, none⟩ colu .i64 z (by omega) (by rw [collen]; omega)
  subst hz
  unfold execOp
  simp only [ho, hx, hy, Option.map_some, Option.map_none]
  rw [Sem.run_bind, h]
  have hs : (sizeOf (Try.prog.elem 23)).run Try.prog w = .ok 1 w := by rw [show Try.prog.elem 23 = 2 from by kernel_rfl]; simp [go_sem]
  rw [hs, collen]
  simp [slicedAt, go_sem]
/-- The blocks of the call. -/
structure PrA (c : Addr) (h : Bool) (P H : Nat → Int) (w wr : World) : Prop where
  upd : Upd c h w wr
  pB : Blk wr w.heap.size 25 300 P
  hB : Blk wr (w.heap.size + 1) 23 24 H
  z0 : Blk wr (w.heap.size + 1 + 1) 25 300 (fun _ => 0)
  z1 : Blk wr (w.heap.size + 1 + 1 + 1) 23 24 (fun _ => 0)
  z2 : Blk wr (w.heap.size + 1 + 1 + 1 + 1) 23 24 (fun _ => 0)
  z3 : Blk wr (w.heap.size + 1 + 1 + 1 + 1 + 1) 78 25 (fun _ => 0)
theorem PrA.upd' {c : Addr} {h h' : Bool} {P H : Nat → Int} {w wr w' : World} (s : PrA c h P H w wr) (hc : c.block < w.heap.size) (u : Upd c h' wr w') : PrA c h' P H w w' :=
  ⟨s.upd.trans u, s.pB.upd u (by omega), s.hB.upd u (by omega), s.z0.upd u (by omega), s.z1.upd u (by omega), s.z2.upd u (by omega), s.z3.upd u (by omega)⟩
theorem PrA.below {c : Addr} {h : Bool} {P H : Nat → Int} {w wr w' : World} (s : PrA c h P H w wr) (b : Below wr.heap.size wr w') : PrA c h P H w w' :=
  ⟨s.upd.then b, s.pB.below b, s.hB.below b, s.z0.below b, s.z1.below b, s.z2.below b, s.z3.below b⟩
theorem PrA.other {c : Addr} {h : Bool} {P H : Nat → Int} {w wr : World} (s : PrA c h P H w wr) {b o : Nat} (hb : w.heap.size + 5 < b) (v : Value) : PrA c h P H w (wr.setCell ⟨b, o, none⟩ v) :=
  ⟨s.upd.setCell (by simp; omega) _, s.pB.other (by simp; omega) _, s.hB.other (by simp; omega) _, s.z0.other (by simp; omega) _, s.z1.other (by simp; omega) _, s.z2.other (by simp; omega) _, s.z3.other (by simp; omega) _⟩
theorem PrA.setH {c : Addr} {h : Bool} {P H : Nat → Int} {w wr : World} (s : PrA c h P H w wr) (o : Nat) (v : Int) : PrA c h P (Go.Proofs.Ytokcdlcmamdloaa.upd H o v) w (wr.setCell ⟨w.heap.size + 1, o, none⟩ (.int .i64 v)) :=
  ⟨s.upd.setCell (by simp) _, s.pB.other (by simp) _, s.hB.set _ _, s.z0.other (by simp) _, s.z1.other (by simp; omega) _, s.z2.other (by simp; omega) _, s.z3.other (by simp; omega) _⟩
theorem PrA.congH {c : Addr} {h : Bool} {P H H' : Nat → Int} {w wr : World} (s : PrA c h P H w wr) (hH : ∀ i, i < 24 → H i = H' i) : PrA c h P H' w wr :=
  ⟨s.upd, s.pB, s.hB.congr hH, s.z0, s.z1, s.z2, s.z3⟩
structure PrB (c : Addr) (h : Bool) (P H : Nat → Int) (fb vb ab : Nat) (F V A : Nat → Int) (w wr : World) : Prop where
  a : PrA c h P H w wr
  fB : Blk wr fb 23 24 F
  vB : Blk wr vb 23 24 V
  aB : Blk wr ab 78 25 A
  ord : w.heap.size + 5 < fb ∧ fb < vb ∧ vb < ab
theorem PrB.upd' {c : Addr} {h h' : Bool} {P H : Nat → Int} {fb vb ab : Nat} {F V A : Nat → Int} {w wr w' : World} (s : PrB c h P H fb vb ab F V A w wr) (hc : c.block < w.heap.size) (u : Upd c h' wr w') : PrB c h' P H fb vb ab F V A w w' :=
  ⟨s.a.upd' hc u, s.fB.upd u (by have := s.ord; omega), s.vB.upd u (by have := s.ord; omega), s.aB.upd u (by have := s.ord; omega), s.ord⟩
theorem PrB.below {c : Addr} {h : Bool} {P H : Nat → Int} {fb vb ab : Nat} {F V A : Nat → Int} {w wr w' : World} (s : PrB c h P H fb vb ab F V A w wr) (b : Below wr.heap.size wr w') : PrB c h P H fb vb ab F V A w w' :=
  ⟨s.a.below b, s.fB.below b, s.vB.below b, s.aB.below b, s.ord⟩
theorem PrB.other {c : Addr} {h : Bool} {P H : Nat → Int} {fb vb ab : Nat} {F V A : Nat → Int} {w wr : World} (s : PrB c h P H fb vb ab F V A w wr) {b o : Nat} (hb : ab < b) (v : Value) : PrB c h P H fb vb ab F V A w (wr.setCell ⟨b, o, none⟩ v) :=
  ⟨s.a.other (by have := s.ord; omega) v, s.fB.other (by have := s.ord; simp; omega) _, s.vB.other (by have := s.ord; simp; omega) _, s.aB.other (by simp; omega) _, s.ord⟩
theorem PrB.setF {c : Addr} {h : Bool} {P H : Nat → Int} {fb vb ab : Nat} {F V A : Nat → Int} {w wr : World} (s : PrB c h P H fb vb ab F V A w wr) (o : Nat) (v : Int) : PrB c h P H fb vb ab (upd F o v) V A w (wr.setCell ⟨fb, o, none⟩ (.int .i64 v)) :=
  ⟨s.a.other (by have := s.ord; omega) _, s.fB.set _ _, s.vB.other (by have := s.ord; simp; omega) _, s.aB.other (by have := s.ord; simp; omega) _, s.ord⟩
theorem PrB.setV {c : Addr} {h : Bool} {P H : Nat → Int} {fb vb ab : Nat} {F V A : Nat → Int} {w wr : World} (s : PrB c h P H fb vb ab F V A w wr) (o : Nat) (v : Int) : PrB c h P H fb vb ab F (upd V o v) A w (wr.setCell ⟨vb, o, none⟩ (.int .i64 v)) :=
  ⟨s.a.other (by have := s.ord; omega) _, s.fB.other (by have := s.ord; simp; omega) _, s.vB.set _ _, s.aB.other (by have := s.ord; simp; omega) _, s.ord⟩
theorem PrB.setA {c : Addr} {h : Bool} {P H : Nat → Int} {fb vb ab : Nat} {F V A : Nat → Int} {w wr : World} (s : PrB c h P H fb vb ab F V A w wr) (o : Nat) (v : Int) : PrB c h P H fb vb ab F V (upd A o v) w (wr.setCell ⟨ab, o, none⟩ (.int .i64 v)) :=
  ⟨s.a.other (by have := s.ord; omega) _, s.fB.other (by have := s.ord; simp; omega) _, s.vB.other (by have := s.ord; simp; omega) _, s.aB.set _ _, s.ord⟩
theorem PrB.cong {c : Addr} {h : Bool} {P H : Nat → Int} {fb vb ab : Nat} {F V A F' V' A' : Nat → Int} {w wr : World} (s : PrB c h P H fb vb ab F V A w wr) (hF : ∀ i, i < 24 → F i = F' i) (hV : ∀ i, i < 24 → V i = V' i) (hA : ∀ i, i < 25 → A i = A' i) : PrB c h P H fb vb ab F' V' A' w wr :=
  ⟨s.a, s.fB.congr hF, s.vB.congr hV, s.aB.congr hA, s.ord⟩
def fS' (P S : Nat → Int) (j : Nat) : Nat → Int := fun x => if x < j then bkF P S x else 0
def vS' (P S : Nat → Int) (j : Nat) : Nat → Int := fun x => if x < j then bkV P S x else 0
def aS' (P S : Nat → Int) (R : Int) (j : Nat) : Nat → Int := fun x => if x ≤ j then bkA P S R x else 0
open Go in
/-- The results of a function that gives four rows. -/
theorem results_rows4 {P : Program} {fn : Func} {p0 p1 p2 p3 : Tmp} {y0 y1 y2 y3 : TypeId} (h : fn.results = #[.cell p0 y0, .cell p1 y1, .cell p2 y2, .cell p3 y3]) (tmps : Array Value) (w : World) (g0 g1 g2 g3 : Nat) (t0 t1 t2 t3 : TypeId) (c0 c1 c2 c3 : Array Value) (r0 r1 r2 r3 : Nat × Nat) (d0 d1 d2 d3 : TypeDesc)
    (q0 : tmps.getD p0 undef = .pointer (some ⟨g0, 0, none⟩)) (k0 : w.heap[g0]? = some (.cells c0 t0 r0)) (u0 : P.underlying y0 = some d0) (e0 : (match d0 with | .struct _ | .array _ _ => true | _ => false) = true) (i0 : (P.info? y0).map (·.size) = some c0.size)
    (q1 : tmps.getD p1 undef = .pointer (some ⟨g1, 0, none⟩)) (k1 : w.heap[g1]? = some (.cells c1 t1 r1)) (u1 : P.underlying y1 = some d1) (e1 : (match d1 with | .struct _ | .array _ _ => true | _ => false) = true) (i1 : (P.info? y1).map (·.size) = some c1.size)
    (q2 : tmps.getD p2 undef = .pointer (some ⟨g2, 0, none⟩)) (k2 : w.heap[g2]? = some (.cells c2 t2 r2)) (u2 : P.underlying y2 = some d2) (e2 : (match d2 with | .struct _ | .array _ _ => true | _ => false) = true) (i2 : (P.info? y2).map (·.size) = some c2.size)
    (q3 : tmps.getD p3 undef = .pointer (some ⟨g3, 0, none⟩)) (k3 : w.heap[g3]? = some (.cells c3 t3 r3)) (u3 : P.underlying y3 = some d3) (e3 : (match d3 with | .struct _ | .array _ _ => true | _ => false) = true) (i3 : (P.info? y3).map (·.size) = some c3.size) :
    (results fn tmps).run P w = .ok (.tuple #[.agg c0, .agg c1, .agg c2, .agg c3]) w := by
  have f0 : tmps[p0]?.getD undef = .pointer (some ⟨g0, 0, none⟩) := by simpa using q0
  have f1 : tmps[p1]?.getD undef = .pointer (some ⟨g1, 0, none⟩) := by simpa using q1
  have f2 : tmps[p2]?.getD undef = .pointer (some ⟨g2, 0, none⟩) := by simpa using q2
  have f3 : tmps[p3]?.getD undef = .pointer (some ⟨g3, 0, none⟩) := by simpa using q3
  simp [results, h, f0, f1, f2, f3, asAddr, run_loadVar_row w g0 t0 y0 c0 r0 d0 k0 u0 e0 i0, run_loadVar_row w g1 t1 y1 c1 r1 d1 k1 u1 e1 i1, run_loadVar_row w g2 t2 y2 c2 r2 d2 k2 u2 e2 i2, run_loadVar_row w g3 t3 y3 c3 r3 d3 k3 u3 e3 i3]
theorem pr_flag {p h : Nat → Int} {r FV VV AV MV : Int} {H0 HJ FH VH MH : Bool} {j : Nat} (h0 : (H0 || orB (bkS p h r) j) = HJ) (h1 : dotV 30 h (colF p j) (j + 1) = FV) (f1 : dotH 30 h (colF p j) (j + 1) = FH) (h2 : mulV (p (276 + j)) FV 30 = VV) (f2 : mulH (p (276 + j)) FV 30 = VH)
    (h3 : bkA p h r j = AV) (h4 : mulV FV VV 30 = MV) (f4 : mulH FV VV 30 = MH) : (HJ || FH || VH || MH || addH AV MV) = (H0 || orB (bkS p h r) (j + 1)) ∧ bkF p h j = FV ∧ bkV p h j = VV ∧ bkA p h r (j + 1) = addV AV MV := by
  have eF : bkF p h j = FV := h1
  have eV : bkV p h j = VV := by rw [← h2, ← eF]; rfl
  have gF : bkFH p h j = FH := f1
  have gV : bkVH p h j = VH := by rw [← f2, ← eF]; rfl
  have gA : bkAH p h r j = (MH || addH AV MV) := by rw [← f4, ← h3, ← h4, ← eV, ← eF]; rfl
  refine ⟨?_, eF, eV, ?_⟩
  · rw [← h0]
    simp only [orB, bkS, gF, gV, gA, Bool.or_assoc]
  · rw [← h3, ← h4, ← eV, ← eF]; rfl
/-- The four rows that are told. -/
theorem prep_rows {c : Addr} {h : Bool} {P H : Nat → Int} {fb vb ab : Nat} {F V A : Nat → Int} {w x : World} (s : PrB c h P H fb vb ab F V A w x) :
    (Blk x w.heap.size 25 300 P ∧ Blk x fb 23 24 F ∧ Blk x vb 23 24 V ∧ Blk x ab 78 25 A) ∧
    (∀ (X1 : World), X1 = x.setRow (w.heap.size + 1 + 1) (arrv 300 P) → (Blk X1 w.heap.size 25 300 P ∧ Blk X1 fb 23 24 F ∧ Blk X1 vb 23 24 V ∧ Blk X1 ab 78 25 A) ∧ Blk X1 (w.heap.size + 1 + 1 + 1) 23 24 (fun _ => 0) ∧
      ∀ (X2 : World), X2 = X1.setRow (w.heap.size + 1 + 1 + 1) (arrv 24 F) → (Blk X2 w.heap.size 25 300 P ∧ Blk X2 fb 23 24 F ∧ Blk X2 vb 23 24 V ∧ Blk X2 ab 78 25 A) ∧ Blk X2 (w.heap.size + 1 + 1 + 1 + 1) 23 24 (fun _ => 0) ∧
        ∀ (X3 : World), X3 = X2.setRow (w.heap.size + 1 + 1 + 1 + 1) (arrv 24 V) → (Blk X3 w.heap.size 25 300 P ∧ Blk X3 fb 23 24 F ∧ Blk X3 vb 23 24 V ∧ Blk X3 ab 78 25 A) ∧ Blk X3 (w.heap.size + 1 + 1 + 1 + 1 + 1) 78 25 (fun _ => 0) ∧
          ∀ (X4 : World), X4 = X3.setRow (w.heap.size + 1 + 1 + 1 + 1 + 1) (arrv 25 A) → (Blk X4 (w.heap.size + 1 + 1) 25 300 P ∧ Blk X4 (w.heap.size + 1 + 1 + 1) 23 24 F ∧ Blk X4 (w.heap.size + 1 + 1 + 1 + 1) 23 24 V ∧ Blk X4 (w.heap.size + 1 + 1 + 1 + 1 + 1) 78 25 A) ∧ Upd c h w X4) := by
  obtain ⟨a, fB, vB, aB, o⟩ := s
  refine ⟨⟨a.pB, fB, vB, aB⟩, ?_⟩
  rintro X1 rfl
  refine ⟨⟨a.pB.setRow_other _ (by omega), fB.setRow_other _ (by omega), vB.setRow_other _ (by omega), aB.setRow_other _ (by omega)⟩, a.z1.setRow_other _ (by omega), ?_⟩
  rintro X2 rfl
  refine ⟨⟨(a.pB.setRow_other _ (by omega)).setRow_other _ (by omega), (fB.setRow_other _ (by omega)).setRow_other _ (by omega), (vB.setRow_other _ (by omega)).setRow_other _ (by omega), (aB.setRow_other _ (by omega)).setRow_other _ (by omega)⟩, (a.z2.setRow_other _ (by omega)).setRow_other _ (by omega), ?_⟩
  rintro X3 rfl
  refine ⟨⟨((a.pB.setRow_other _ (by omega)).setRow_other _ (by omega)).setRow_other _ (by omega), ((fB.setRow_other _ (by omega)).setRow_other _ (by omega)).setRow_other _ (by omega), ((vB.setRow_other _ (by omega)).setRow_other _ (by omega)).setRow_other _ (by omega), ((aB.setRow_other _ (by omega)).setRow_other _ (by omega)).setRow_other _ (by omega)⟩, ((a.z3.setRow_other _ (by omega)).setRow_other _ (by omega)).setRow_other _ (by omega), ?_⟩
  rintro X4 rfl
  refine ⟨⟨(((a.z0.setRow _).setRow_other _ (by omega)).setRow_other _ (by omega)).setRow_other _ (by omega), (((a.z1.setRow_other _ (by omega)).setRow _).setRow_other _ (by omega)).setRow_other _ (by omega), (((a.z2.setRow_other _ (by omega)).setRow_other _ (by omega)).setRow _).setRow_other _ (by omega), (((a.z3.setRow_other _ (by omega)).setRow_other _ (by omega)).setRow_other _ (by omega)).setRow _⟩, ?_⟩
  exact (((a.upd.then' (below_row (Below.refl _ _) (by omega) _)).then' (below_row (Below.refl _ _) (by omega) _)).then' (below_row (Below.refl _ _) (by omega) _)).then' (below_row (Below.refl _ _) (by omega) _)
end Go.Proofs.Ytokcdlcmamdloaa
