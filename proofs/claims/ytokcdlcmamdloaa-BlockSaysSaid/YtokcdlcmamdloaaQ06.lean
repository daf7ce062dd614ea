/- Contracts of the program's functions and plain laws, part 6: they hold for all arguments. -/
import Derived.Test.YtokcdlcmamdloaaQ03
import Derived.Laws.Tables
import Derived.Test.YtokcdlcmamdloaaQ05
import Derived.Test.YtokcdlcmamdloaaQ04
import Derived.Laws.AppendOwn
import Derived.Test.YtokcdlcmamdloaaProg
import Derived.Deep.AppendLies
import Derived.Outline
/- What a law's walk carries: its own blocks (numbers, flags), and that all that was there is left. -/
namespace Go.Proofs.Ytokcdlcmamdloaa
open Go.RowKit
/-- Block b holds one flag. -/
def Flg (w : World) (b : Nat) (h : Bool) : Prop := w.heap[b]? = some (.cells #[.bool h] 31 (0, 0))
theorem Flg.cell {w : World} {b : Nat} {h : Bool} (f : Flg w b h) : w.cell? ⟨b, 0, none⟩ = some (.bool h) := by
  rw [cell_of_row w b 0 _ _ _ f]; rfl
theorem Flg.free {w : World} {b : Nat} {h : Bool} (f : Flg w b h) : w.frozen? ⟨b, 0, none⟩ = false := frozen_of_row w b 0 _ _ f
theorem Flg.lt {w : World} {b : Nat} {h : Bool} (f : Flg w b h) : b < w.heap.size := by
  rcases Nat.lt_or_ge b w.heap.size with h' | h'
  · exact h'
  · unfold Flg at f; rw [Array.getElem?_eq_none h'] at f; cases f
theorem Flg.below {w w' : World} {b : Nat} {h : Bool} (f : Flg w b h) (hb : Below w.heap.size w w') : Flg w' b h := (hb.block b f.lt).trans f
theorem Flg.alloc {w : World} {b : Nat} {h : Bool} (f : Flg w b h) (o : Obj) : Flg (w.alloc o) b h := f.below ((Below.refl w.heap.size w).alloc (Nat.le_refl _) o)
theorem Flg.other {w : World} {b : Nat} {h : Bool} (f : Flg w b h) {a : Addr} (ha : b ≠ a.block) (v : Value) : Flg (w.setCell a v) b h := (heap_setCell_other w a b v ha).trans f
theorem Flg.row {w : World} {b k : Nat} {h : Bool} (f : Flg w b h) (cs : Array Value) (hk : b ≠ k) : Flg (w.setRow k cs) b h := (Go.setRow_other w k b cs hk).trans f
theorem Flg.new (w : World) (h : Bool) : Flg (w.alloc (.cells #[.bool h] 31)) w.heap.size h := heap_alloc_new w _
theorem Flg.upd {w w' : World} {b : Nat} {h : Bool} (f : Flg w b h) {c : Addr} {v : Bool} (u : Upd c v w w') (hn : b ≠ c.block) : Flg w' b h := (u.block f.lt hn).trans f
/-- Its own flag, raised or not. -/
theorem Flg.hit {w w' : World} {b : Nat} {h h' : Bool} (f : Flg w b h) (u : Upd ⟨b, 0, none⟩ h' w w') : Flg w' b h' := by
  have e : (w.setCell ⟨b, 0, none⟩ (.bool h')).heap[b]? = some (.cells #[.bool h'] 31 (0, 0)) := heap_setCell_same w b 0 _ _ (.bool h') f
  have hl : b < w.heap.size := f.lt
  exact (Below.block u b hl).trans e
theorem Flg.ne {w : World} {b b' : Nat} {h : Bool} {T n : Nat} {f' : Nat → Int} (f : Flg w b h) (k : Blk w b' T n f') : b' ≠ b := k.flag f.cell
/-- Where the flag's cell is new, all that was there is left. -/
theorem own_upd {c : Addr} {h : Bool} {w w1 w2 : World} (b : Below w.heap.size w w1) (hc : w.heap.size ≤ c.block) (u : Upd c h w1 w2) : Below w.heap.size w w2 :=
  b.trans (((Below.refl w.heap.size w1).setCell hc _).trans (Below.mono u b.size))
/-- A block made and filled. -/
theorem Blk.made {w w1 : World} {T n : Nat} {z : Array Value} (hz : z = arrv n (fun _ => 0)) (g : Nat → Int) (e : w1 = (w.alloc (.cells z T)).setRow w.heap.size (arrv n g)) : Blk w1 w.heap.size T n g ∧ Below w.heap.size w w1 := by
  subst e hz
  exact ⟨(Blk.new w T n _).setRow g, below_row ((Below.refl _ _).alloc (Nat.le_refl _) _) (Nat.le_refl _) _⟩
open Go in
/-- An operation of a plain region, by its value. -/
theorem wpList_val {P : Program} {ops : Array Oper} {Q : Exit → Act → World → Prop} {a : Act} {w : World} {rest : List Oper} {o : Oper} {v : Value}
    (hw : Region.wanted o (yielded ops a.tmps) = true) (hy : (execOp a.eval o).run P w = .ok (.value v) w) (h : wpList P ops Q rest (a.put o.dst v) w) : wpList P ops Q (o :: rest) a w :=
  wpList_step fun K hK => by
    rw [if_pos hw]
    unfold Oper.wp
    rw [hy]
    exact hK _ _ h
open Go in
/-- .. that is not wanted. -/
theorem wpList_skip {P : Program} {ops : Array Oper} {Q : Exit → Act → World → Prop} {a : Act} {w : World} {rest : List Oper} {o : Oper}
    (hw : Region.wanted o (yielded ops a.tmps) = false) (h : wpList P ops Q rest (a.put o.dst undef) w) : wpList P ops Q (o :: rest) a w :=
  wpList_step fun K hK => by
    rw [if_neg (by rw [hw]; decide)]
    exact hK _ _ h
open Go in
/-- .. by its value and its world. -/
theorem wpList_act {P : Program} {ops : Array Oper} {Q : Exit → Act → World → Prop} {a : Act} {w w' : World} {rest : List Oper} {o : Oper} {v : Value}
    (hw : Region.wanted o (yielded ops a.tmps) = true) (hy : (execOp a.eval o).run P w = .ok (.value v) w') (h : wpList P ops Q rest (a.put o.dst v) w') : wpList P ops Q (o :: rest) a w :=
  wpList_step fun K hK => by
    rw [if_pos hw]
    unfold Oper.wp
    rw [hy]
    exact hK _ _ h
open Go in
/-- .. by its world. -/
theorem wpList_done {P : Program} {ops : Array Oper} {Q : Exit → Act → World → Prop} {a : Act} {w w' : World} {rest : List Oper} {o : Oper}
    (hw : Region.wanted o (yielded ops a.tmps) = true) (hy : (execOp a.eval o).run P w = .ok .skip w') (h : wpList P ops Q rest (a.put o.dst undef) w') : wpList P ops Q (o :: rest) a w :=
  wpList_step fun K hK => by
    rw [if_pos hw]
    unfold Oper.wp
    rw [hy]
    exact hK _ _ h
open Go in
theorem run_store_row {P : Program} {ev : Operand → Value} {o : Oper} {w : World} (ty : TypeId) (x y : Operand) (ho : o.op = .store ty x y)
    (g : Nat) (hx : ev x = .pointer (some ⟨g, 0, none⟩)) {T n : Nat} {F f : Nat → Int} (hy : ev y = .agg (arrv n F)) (hg : Blk w g T n f) (hi : (P.info? ty).map (·.size) = some n) :
    (execOp ev o).run P w = .ok .skip (w.setRow g (arrv n F)) := by
  unfold execOp
  simp only [ho, hx, hy, Instr.storeAt, Instr.sureAddr, Sem.run_bind, Sem.run_pure, Result.andThen_ok, run_storeVar_row (P := P) w g T ty (arrv n f) (arrv n F) hg (hi.trans (by rw [arrv_size])) (by rw [arrv_size, arrv_size]) (oneCell_arrv n F)]
open Go in
/-- A region that draws its order: from here on a stronger condition holds. -/
theorem wpAnyM_weaken {P : Program} {ops : Array Oper} {Q : Exit → Act → World → Prop} {md : Region.Mode} {L : Nat} {S : World → Prop} (S' : World → Prop) (h : ∀ w, S' w → S w) : ∀ {fuel : Nat} {listed : Array Bool} {a : Act} {w : World}, wpAnyM P md ops Q S' L fuel listed a w → wpAnyM P md ops Q S L fuel listed a w
  | 0, _, _, _, H => H
  | fuel + 1, _, _, _, H => ⟨H.1, fun i hi => wpOp_mono (fun _ w' h' => ⟨h'.1.imp id (h w'), wpAnyM_weaken S' h h'.2⟩) (H.2 i hi)⟩
open Go in
/-- A region that draws its order: one of two may come up. -/
theorem wpAnyM_twoS {P : Program} {ops : Array Oper} {Q : Exit → Act → World → Prop} {md : Region.Mode} {L : Nat} {S : World → Prop} (i j : Nat) {oi oj : Oper} {fuel : Nat} {listed : Array Bool} {a : Act} {w : World} (hi : ops.toList[i]? = some oi) (hj : ops.toList[j]? = some oj) (hr : Region.ready md ops listed = [i, j])
    (h1 : ∀ K : Act → World → Prop, Shut (∀ a w, S w → (S w → wpAnyM P md ops Q S L fuel (listed.setIfInBounds i true) a w) → K a w) →
      if Region.wanted oi (yielded ops a.tmps) = true then Oper.wp P oi a w K Q else K (a.put oi.dst undef) w)
    (h2 : ∀ K : Act → World → Prop, Shut (∀ a w, S w → (S w → wpAnyM P md ops Q S L fuel (listed.setIfInBounds j true) a w) → K a w) →
      if Region.wanted oj (yielded ops a.tmps) = true then Oper.wp P oj a w K Q else K (a.put oj.dst undef) w) :
    wpAnyM P md ops Q S L (fuel + 1) listed a w := by
  have hi' : ops[i]? = some oi := by rwa [Array.getElem?_toList] at hi
  have hj' : ops[j]? = some oj := by rwa [Array.getElem?_toList] at hj
  refine ⟨fun h0 => (by rw [hr] at h0; cases h0), fun k hk => ?_⟩
  rw [hr] at hk
  have hk' : k = i ∨ k = j := by simpa using hk
  rcases hk' with rfl | rfl
  · exact wpOp_step hi' (fun K' hK => h1 K' (fun a w hS hW => hK a w ⟨.inr hS, hW hS⟩))
  · exact wpOp_step hj' (fun K' hK => h2 K' (fun a w hS hW => hK a w ⟨.inr hS, hW hS⟩))
theorem if_pos_of {b : Bool} {p q : Prop} (h : b = true) (hp : p) : if b = true then p else q := by rw [if_pos h]; exact hp
open Go in
theorem wp_of_run {P : Program} {o : Oper} {a : Act} {w w' : World} {K : Act → World → Prop} {Q : Exit → Act → World → Prop} (hy : (execOp a.eval o).run P w = .ok .skip w') (h : K (a.put o.dst undef) w') : Oper.wp P o a w K Q := by
  unfold Oper.wp
  rw [hy]
  exact h
end Go.Proofs.Ytokcdlcmamdloaa
/- Contracts of package block: is, variance, Reset. -/
namespace Go.Proofs.Ytokcdlcmamdloaa
open Go.RowKit
set_option maxRecDepth 100000
theorem is_any (i : Int) (w : World) : Calls Try.prog 53 #[.int .i64 i] w fun e w' => e = .returned (.bool (decide (0 ≤ i ∧ i < 24))) ∧ w = w' := by
  by_cases h1 : 0 ≤ i
  · by_cases h2 : i < 24
    · rw [show decide (0 ≤ i ∧ i < 24) = true from by simp; omega]
      go_enter Try.func53, Try.ntmps53
      go_wp2_with fail
      go_ret
      exact ⟨rfl, rfl⟩
    · rw [show decide (0 ≤ i ∧ i < 24) = false from by simp; omega]
      go_enter Try.func53, Try.ntmps53
      go_wp2_with fail
      go_ret
      exact ⟨rfl, rfl⟩
  · rw [show decide (0 ≤ i ∧ i < 24) = false from by simp; omega]
    go_enter Try.func53, Try.ntmps53
    go_wp2_with fail
    go_ret
    exact ⟨rfl, rfl⟩
theorem bvar_any (c : Addr) (h : Bool) (a : Int) (w : World) (hc : w.cell? c = some (.bool h)) (hf : w.frozen? c = false) :
    Calls Try.prog 54 #[.pointer (some c), .int .i64 a] w fun e w' => e = .returned (.int .i64 (varV a)) ∧ w.setCell c (.bool (h || varH a)) = w' := by
  go_enter Try.func54, Try.ntmps54
  go_wp2_with (go_at_call 28; refine (clamp_any c h a _ _ _ hc hf).mono ?_; rintro e w' ⟨rfl, rfl⟩)
  go_ret
  exact ⟨rfl, rfl⟩
/-- Is the k-th state of a run that begins at 'from' one? -/
def rtI (fr : Int) (k : Nat) : Bool := decide (0 ≤ fr + k ∧ fr + k < 24)
def rtF (fr : Int) : Nat → Nat → Int | 0 => oneF | k + 1 => if rtI fr k = true then upd (rtF fr k) ((fr + k).toNat * 24 + (fr + k).toNat) 0 else rtF fr k
def rtQ (fr : Int) (L : Nat → Int) : Nat → Nat → Int | 0 => fun _ => 0 | k + 1 => if rtI fr k = true then upd (rtQ fr L k) (fr + k).toNat (varV (L k)) else rtQ fr L k
def rtB (fr : Int) (L : Nat → Int) (k : Nat) : Bool := if rtI fr k = true then varH (L k) else false
def gwQ (fr : Int) (L : Nat → Int) : Nat → Nat → Int | 0 => fun _ => 0 | k + 1 => if rtI fr k = true then upd (gwQ fr L k) (fr + k).toNat (L k) else gwQ fr L k
structure RtR (c : Addr) (h : Bool) (bf bq : Nat) (f F Q : Nat → Int) (w wr : World) : Prop where
  upd : Upd c h w wr
  pB : Blk wr w.heap.size 25 300 f
  r0 : Blk wr (w.heap.size + 1) 25 300 (fun _ => 0)
  fB : Blk wr bf 27 576 F
  qB : Blk wr bq 23 24 Q
theorem RtR.upd' {c : Addr} {h h' : Bool} {bf bq : Nat} {f F Q : Nat → Int} {w wr w' : World} (s : RtR c h bf bq f F Q w wr) (hc : c.block < w.heap.size) (h1 : w.heap.size + 1 < bf) (h2 : bf < bq) (u : Upd c h' wr w') : RtR c h' bf bq f F Q w w' :=
  ⟨s.upd.trans u, s.pB.upd u (by omega), s.r0.upd u (by omega), s.fB.upd u (by omega), s.qB.upd u (by omega)⟩
theorem RtR.setFQ {c : Addr} {h : Bool} {bf bq : Nat} {f F Q : Nat → Int} {w wr : World} (s : RtR c h bf bq f F Q w wr) (h1 : w.heap.size + 1 < bf) (h2 : bf < bq) (i j : Nat) (x y : Int) :
    RtR c h bf bq f (Go.Proofs.Ytokcdlcmamdloaa.upd F i x) (Go.Proofs.Ytokcdlcmamdloaa.upd Q j y) w ((wr.setCell ⟨bf, i, none⟩ (.int .i64 x)).setCell ⟨bq, j, none⟩ (.int .i64 y)) :=
  ⟨(s.upd.setCell (by simp; omega) _).setCell (by simp; omega) _, (s.pB.other (by simp; omega) _).other (by simp; omega) _, (s.r0.other (by simp; omega) _).other (by simp; omega) _, (s.fB.set _ _).other (by simp; omega) _, (s.qB.other (by simp; omega) _).set _ _⟩
set_option maxHeartbeats 4000000 in
theorem reset_any (c : Addr) (h : Bool) (f : Nat → Int) (fr : Int) (p : Option Addr) (n cp : Nat) (L : Nat → Int) (w : World) (hc : w.cell? c = some (.bool h)) (hf : w.frozen? c = false) (hL : Slc w p n L) (hfr : -1000000 ≤ fr ∧ fr ≤ 1000000) (hn : n ≤ 1000000) :
    Calls Try.prog 18 #[.pointer (some c), .agg (arrv 300 f), .int .i64 fr, .slice p n cp] w fun e w' =>
      e = .returned (.agg (arrv 300 (stepF f (rtF fr n) (rtQ fr L n)))) ∧ Upd c (h || orB (rtB fr L) n || stepH f (rtF fr n) (rtQ fr L n)) w w' := by
  have hcb := World.block_lt_of_cell? w c hc
  have HC := Lib.hid hc
  have HF := Lib.hid hf
  have HL := Lib.hid hL
  clear hc hf hL
  go_enter Try.func18, Try.ntmps18
  obtain ⟨W0, hW0⟩ : ∃ x, (w.alloc (.cells (arrv 300 f) 25)).alloc (.cells Try.zeroCells25 25) = x := ⟨_, rfl⟩
  have P0 : Blk W0 w.heap.size 25 300 f := by rw [← hW0]; exact (Blk.new w _ _ _).alloc _
  have Z0 : Blk W0 (w.heap.size + 1) 25 300 (fun _ => 0) := by rw [← hW0, zcov]; exact Blk.new1 w _ _ _ _
  have U0 : Upd c h w W0 := by rw [← hW0]; exact Upd.then (Upd.refl HC.out) (by (repeat (first | with_reducible exact Below.refl _ _ | with_reducible apply Below.drew | (with_reducible refine below_drewN ?_ _) | (with_reducible refine Below.alloc ?_ (by (try simp) <;> omega) _) | (with_reducible refine Below.setCell ?_ (by (try simp) <;> omega) _))))
  have hz0 := Z0.lt
  go_upto_region 1 with fail
  (try rw [hW0])
  go_upto_region 2 with (first | (go_at_call 26; (refine (one_any _).mono ?_); rintro e w1 ⟨rfl, hb1⟩; have P1 := Lib.hid (P0.below hb1); have Z1 := Lib.hid (Z0.below hb1); have U1 := Lib.hid (U0.then hb1); have R1 : Blk (w1.alloc (.cells Try.zeroCells27 27)) w1.heap.size 27 576 (fun _ => 0) := (by rw [zmat]; exact Blk.new _ _ _ _); clear hb1) | (refine wpList_store_row rfl 27 _ _ rfl (w1.heap.size) _ rfl rfl 27 _ (R1) (imat.trans (by rw [arrv_size])) (by rw [arrv_size, arrv_size]) (oneCell_arrv _ _) ?_))
  obtain ⟨w2, hw2⟩ : ∃ x, x = ((w1.alloc (.cells Try.zeroCells27 27)).setRow w1.heap.size (arrv 576 oneF)) := ⟨_, rfl⟩
  rw [← hw2]
  obtain ⟨M2, MB⟩ := Blk.made zmat oneF hw2
  obtain ⟨bf, hbf⟩ : ∃ x, w1.heap.size = x := ⟨_, rfl⟩
  obtain ⟨bq, hbq⟩ : ∃ x, w2.heap.size = x := ⟨_, rfl⟩
  have h1 : w.heap.size + 1 < bf := by rw [← hbf]; exact Z1.out.lt
  rw [hbf] at M2 ⊢
  have h2 : bf < bq := by rw [← hbq]; exact M2.lt
  have S2 : RtR c h bf bq f oneF (fun _ => 0) w (w2.alloc (.cells #[.int .i64 0, .int .i64 0, .int .i64 0, .int .i64 0, .int .i64 0, .int .i64 0, .int .i64 0, .int .i64 0, .int .i64 0, .int .i64 0, .int .i64 0, .int .i64 0, .int .i64 0, .int .i64 0, .int .i64 0, .int .i64 0, .int .i64 0, .int .i64 0, .int .i64 0, .int .i64 0, .int .i64 0, .int .i64 0, .int .i64 0, .int .i64 0] 23)) :=
    ⟨(U1.out.then MB).alloc _, (P1.out.below MB).alloc _, (Z1.out.below MB).alloc _, M2.alloc _, by rw [zcol, ← hbq]; exact Blk.new w2 _ _ _⟩
  have S2 := Lib.hid S2
  clear P0 Z0 U0 hz0 R1 hw2 M2 MB P1 Z1 U1 hW0 hbf
  go_upto_region 3 with fail
  (try rw [hbq])
  generalize w2.alloc (.cells #[.int .i64 0, .int .i64 0, .int .i64 0, .int .i64 0, .int .i64 0, .int .i64 0, .int .i64 0, .int .i64 0, .int .i64 0, .int .i64 0, .int .i64 0, .int .i64 0, .int .i64 0, .int .i64 0, .int .i64 0, .int .i64 0, .int .i64 0, .int .i64 0, .int .i64 0, .int .i64 0, .int .i64 0, .int .i64 0, .int .i64 0, .int .i64 0] 23) = W3 at *
  clear hbq
  go_wp2_with fail
  go_loopw [17] (fun i wr => ∃ k : Nat, k ≤ n ∧ i = .int .i64 k ∧ Hid (RtR c (h || orB (rtB fr L) k) bf bq f (rtF fr k) (rtQ fr L k) w wr)) (fun i _ => n - (intOf i).toNat)
  case atStart =>
    refine ⟨0, by omega, rfl, ?_⟩
    rw [show (h || orB (rtB fr L) 0) = h from by simp [orB]]
    exact S2
  case round =>
    obtain ⟨k, hk, rfl, R⟩ := hrel
    by_cases hkn : k < n
    · have d1 : decide ((k : Int) < (n : Int)) = true := by simp; omega
      obtain ⟨pb, po, rfl, hcell⟩ := HL.out k hkn
      have hne : (⟨pb, po + k, none⟩ : Addr) ≠ c := fun e => by rw [e, HC.out] at hcell; cases hcell
      have hpl := World.block_lt_of_cell? _ _ hcell
      have hcell' : wr.cell? ⟨pb, po + k, none⟩ = some (.int .i64 (L k)) := (R.out.upd.cell hpl (Ne.symm hne)).trans hcell
      have kw : IntKind.i64.wrap (fr + (k : Int)) = fr + (k : Int) := IntWalk.i64_in _ (by omega)
      obtain ⟨x, hx⟩ : ∃ x, fr + (k : Int) = x := ⟨_, rfl⟩
      rw [hx] at kw
      go_upto_region 7 with fail
      (try rw [hx]); (try rw [kw])
      by_cases hin : 0 ≤ x ∧ x < 24
      · obtain ⟨i, rfl⟩ : ∃ i : Nat, x = (i : Int) := ⟨x.toNat, by omega⟩
        have hi : i < 24 := by omega
        have q1 : decide ((0 : Int) ≤ (i : Int) ∧ (i : Int) < 24) = true := by simp; omega
        have qI : rtI fr k = true := by unfold rtI; rw [hx]; exact q1
        have qn : (fr + (k : Int)).toNat = i := by rw [hx]; simp
        go_upto_region 8 with (go_at_call 53; (refine (is_any (i : Int) _).mono ?_); rintro e w5 ⟨rfl, rfl⟩; (rw [q1]))
        obtain ⟨HK, hHK⟩ : ∃ y, (h || orB (rtB fr L) k) = y := ⟨_, rfl⟩
        rw [hHK] at R
        have HR := Lib.hid R.out
        have EK := Lib.hid (And.intro hHK (And.intro qI qn))
        have VC := Lib.hid (bvar_any c HK (L k) wr.drew (by exact R.out.upd.cellc HC.out) (by exact (R.out.upd.frozen hcb).trans HF.out))
        clear R hHK qI qn hcell hcell' kw hx q1 hpl hne S2
        refine wp_region_M (fun _ => True) 10 (by kernel_rfl) ?_ (fun hHeld => ?_)
        · trivial
        refine wpAnyM_take 0 (v := ?_) rfl (by kernel_rfl) (fun _ _ _ h => h) (Or.inl ⟨by rfl, ?_⟩) (by assumption) ?_
        rotate_left
        · (intro wx hSw; (try dsimp only at hSw); go_simp; (try with_reducible rfl))
        (try simp only [Act.put, List.setIfInBounds_toArray, List.set_cons_zero, List.set_cons_succ])
        refine wpAnyM_take 1 (v := ?_) rfl (by kernel_rfl) (fun _ _ _ h => h) (Or.inl ⟨by rfl, ?_⟩) (by assumption) ?_
        rotate_left
        · (intro wx hSw; (try dsimp only at hSw); go_simp; (try with_reducible rfl))
        (try simp only [Act.put, List.setIfInBounds_toArray, List.set_cons_zero, List.set_cons_succ])
        refine wpAnyM_take 2 (v := ?_) rfl (by kernel_rfl) (fun _ _ _ h => h) (Or.inl ⟨by rfl, ?_⟩) (by assumption) ?_
        rotate_left
        · (intro wx hSw; (try dsimp only at hSw); go_simp; (try with_reducible rfl))
        (try simp only [Act.put, List.setIfInBounds_toArray, List.set_cons_zero, List.set_cons_succ])
        refine wpAnyM_take 3 (v := ?_) rfl (by kernel_rfl) (fun _ _ _ h => h) (Or.inl ⟨by rfl, ?_⟩) (by assumption) ?_
        rotate_left
        · (intro wx hSw; (try dsimp only at hSw); go_simp; (try with_reducible rfl))
        (try simp only [Act.put, List.setIfInBounds_toArray, List.set_cons_zero, List.set_cons_succ])
        refine wpAnyM_take 4 (v := ?_) rfl (by kernel_rfl) (fun _ _ _ h => h) (Or.inl ⟨by rfl, ?_⟩) (by assumption) ?_
        rotate_left
        · (intro wx hSw; (try dsimp only at hSw); go_simp; (try with_reducible rfl))
        (try simp only [Act.put, List.setIfInBounds_toArray, List.set_cons_zero, List.set_cons_succ])
        refine wpAnyM_take 6 (v := ?_) rfl (by kernel_rfl) (fun _ _ _ h => h) (Or.inl ⟨by rfl, ?_⟩) (by assumption) ?_
        rotate_left
        · (intro wx hSw; (try dsimp only at hSw); go_simp; (first | rw [if_pos (by omega)] | rw [if_pos ⟨by omega, by omega⟩] | skip); (try with_reducible rfl))
        (try simp only [Act.put, List.setIfInBounds_toArray, List.set_cons_zero, List.set_cons_succ])
        refine wpAnyM_take 7 (v := ?_) rfl (by kernel_rfl) (fun _ _ _ h => h) (Or.inl ⟨by rfl, ?_⟩) (by assumption) ?_
        rotate_left
        · (intro wx hSw; (try dsimp only at hSw); go_simp; (first | rw [if_pos (by omega)] | rw [if_pos ⟨by omega, by omega⟩] | skip); (try with_reducible rfl))
        (try simp only [Act.put, List.setIfInBounds_toArray, List.set_cons_zero, List.set_cons_succ])
        refine wpAnyM_oneS 5 rfl (by kernel_rfl) (fun K hK => ?_)
        go_simp
        (refine VC.out.mono ?_); rintro e w6 ⟨rfl, hw6⟩; have R6 := Lib.hid (HR.out.upd' hcb h1 h2 (Upd.after (Below.drew (Below.refl _ _)) ((Upd.set c (HK || varH (L k)) wr.drew).then (by rw [hw6]; exact Below.refl _ _)))); have n0 := R6.out.fB.cell (i := i * 24 + i) (by omega); have n1 := R6.out.fB.free (i * 24 + i); have n2 := (R6.out.qB.other (a := ⟨bf, i * 24 + i, none⟩) (by simp; omega) (.int .i64 0)).cell (i := i) hi; have n3 := (R6.out.qB.other (a := ⟨bf, i * 24 + i, none⟩) (by simp; omega) (.int .i64 0)).free i; clear hw6
        (try dsimp only)
        (try simp only [Act.put, List.setIfInBounds_toArray, List.set_cons_zero, List.set_cons_succ])
        clear hHeld
        refine hK.out _ _ ?_ (fun hHeld => ?_)
        · trivial
        clear hK K
        (try simp only [Act.put, List.setIfInBounds_toArray, List.set_cons_zero, List.set_cons_succ])
        refine wpAnyM_oneS 8 rfl (by kernel_rfl) (fun K hK => ?_)
        go_simp
        clear hHeld
        refine hK.out _ _ ?_ (fun hHeld => ?_)
        · trivial
        clear hK K
        (try simp only [Act.put, List.setIfInBounds_toArray, List.set_cons_zero, List.set_cons_succ])
        refine wpAnyM_take 9 (v := ?_) rfl (by kernel_rfl) (fun _ _ _ h => h) (Or.inl ⟨by rfl, ?_⟩) (by assumption) ?_
        rotate_left
        · (intro wx hSw; (try dsimp only at hSw); go_simp; (first | rw [if_pos (by omega)] | rw [if_pos ⟨by omega, by omega⟩] | skip); (try with_reducible rfl))
        (try simp only [Act.put, List.setIfInBounds_toArray, List.set_cons_zero, List.set_cons_succ])
        refine wpAnyM_one 10 rfl (by kernel_rfl) (fun K hK => ?_)
        go_simp
        refine hK.out _ _ (.inl (by kernel_rfl)) (fun _ => ?_)
        clear hK K
        (try simp only [Act.put, List.setIfInBounds_toArray, List.set_cons_zero, List.set_cons_succ])
        refine wpAnyM_done (by kernel_rfl) ?_ _
        have R7 := Lib.hid (R6.out.setFQ h1 h2 (i * 24 + i) i 0 (varV (L k)))
        generalize (w6.setCell ⟨bf, i * 24 + i, none⟩ (.int .i64 0)).setCell ⟨bq, i, none⟩ (.int .i64 (varV (L k))) = W7 at *
        clear n0 n1 n2 n3 R6 HR VC
        (try clear hHeld)
        go_wp2_with fail
        go_roundw
        case rel =>
          obtain ⟨e1, e2, e3⟩ := EK.out
          refine ⟨k + 1, by omega, by go_num, ?_⟩
          rw [show (h || orB (rtB fr L) (k + 1)) = (HK || varH (L k)) from by rw [← e1]; simp [orB, rtB, e2, Bool.or_assoc], show rtF fr (k + 1) = Go.Proofs.Ytokcdlcmamdloaa.upd (rtF fr k) (i * 24 + i) 0 from by simp only [rtF]; rw [if_pos e2, e3], show rtQ fr L (k + 1) = Go.Proofs.Ytokcdlcmamdloaa.upd (rtQ fr L k) i (varV (L k)) from by simp only [rtQ]; rw [if_pos e2, e3]]
          exact R7
        case measure => simp [intOf]; omega
      · have q1 : decide ((0 : Int) ≤ x ∧ x < 24) = false := by simpa using hin
        have qI : rtI fr k = false := by unfold rtI; rw [hx]; exact q1
        have qI' : ¬ rtI fr k = true := by rw [qI]; simp
        have EK := Lib.hid qI'
        go_wp2_with (go_at_call 53; (refine (is_any x _).mono ?_); rintro e w5 ⟨rfl, rfl⟩; (rw [q1]))
        go_roundw
        case rel =>
          refine ⟨k + 1, by omega, by go_num, ?_⟩
          rw [show (h || orB (rtB fr L) (k + 1)) = (h || orB (rtB fr L) k) from by simp only [orB, rtB]; rw [if_neg EK.out, Bool.or_false], show rtF fr (k + 1) = rtF fr k from by simp only [rtF]; rw [if_neg EK.out], show rtQ fr L (k + 1) = rtQ fr L k from by simp only [rtQ]; rw [if_neg EK.out]]
          exact R
        case measure => simp [intOf]; omega
    · have hkn2 : k = n := by omega
      subst hkn2
      have d1 : decide ((k : Int) < (k : Int)) = false := by simp
      have P1 := R.out.pB
      have P2 := R.out.fB
      have P3 := R.out.qB
      have SC := Lib.hid (step_any c _ f (rtF fr k) (rtQ fr L k) wr (R.out.upd.cellc HC.out) ((R.out.upd.frozen hcb).trans HF.out))
      go_wp2_with (first | (refine wpList_load_row rfl 25 _ rfl (w.heap.size) rfl 25 _ (0, 0) _ (P1) Try.underlying25 rfl (icov.trans (by rw [arrv_size])) ?_) | (refine wpList_load_row rfl 27 _ rfl (bf) rfl 27 _ (0, 0) _ (P2) Try.underlying27 rfl (imat.trans (by rw [arrv_size])) ?_) | (refine wpList_load_row rfl 23 _ rfl (bq) rfl 23 _ (0, 0) _ (P3) Try.underlying23 rfl (icol.trans (by rw [arrv_size])) ?_) | (go_at_call 7; (refine SC.out.mono ?_); rintro e w8 ⟨rfl, hu8⟩; have Z8 := R.out.r0.upd hu8 (by omega); have U8 := Lib.hid (R.out.upd.trans hu8); clear hu8) | (refine wpList_store_row rfl 25 _ _ rfl (w.heap.size + 1) _ rfl rfl 25 _ (Z8) (icov.trans (by rw [arrv_size])) (by rw [arrv_size, arrv_size]) (oneCell_arrv _ _) ?_))
      refine bodyPost_ret (results_cell_row Try.results18 _ _ (w.heap.size + 1) 25 (arrv 300 (stepF f (rtF fr k) (rtQ fr L k))) (0, 0) _ rfl (setRow_heap _ _ _ _ _ _ Z8) Try.underlying25 rfl (icov.trans (by rw [arrv_size]))) rfl ⟨rfl, ?_⟩
      exact U8.out.then' (below_row (Below.refl _ _) (by omega) _)
end Go.Proofs.Ytokcdlcmamdloaa
/- Contract of block.Grow. -/
namespace Go.Proofs.Ytokcdlcmamdloaa
open Go.RowKit
set_option maxRecDepth 100000
structure GwR (c : Addr) (h : Bool) (bq : Nat) (f Q : Nat → Int) (w wr : World) : Prop where
  upd : Upd c h w wr
  pB : Blk wr w.heap.size 25 300 f
  r0 : Blk wr (w.heap.size + 1) 25 300 (fun _ => 0)
  qB : Blk wr bq 23 24 Q
theorem GwR.below {c : Addr} {h : Bool} {bq : Nat} {f Q : Nat → Int} {w wr w' : World} (s : GwR c h bq f Q w wr) (u : Below wr.heap.size wr w') : GwR c h bq f Q w w' := ⟨s.upd.then u, s.pB.below u, s.r0.below u, s.qB.below u⟩
theorem GwR.drew {c : Addr} {h : Bool} {bq : Nat} {f Q : Nat → Int} {w wr : World} (s : GwR c h bq f Q w wr) : GwR c h bq f Q w wr.drew := ⟨s.upd.drew, s.pB, s.r0, s.qB⟩
theorem GwR.setQ {c : Addr} {h : Bool} {bq : Nat} {f Q : Nat → Int} {w wr : World} (s : GwR c h bq f Q w wr) (h1 : w.heap.size + 1 < bq) (j : Nat) (y : Int) : GwR c h bq f (Go.Proofs.Ytokcdlcmamdloaa.upd Q j y) w (wr.setCell ⟨bq, j, none⟩ (.int .i64 y)) :=
  ⟨s.upd.setCell (by simp; omega) _, s.pB.other (by simp; omega) _, s.r0.other (by simp; omega) _, s.qB.set _ _⟩
set_option maxHeartbeats 4000000 in
theorem grow_any (c : Addr) (h : Bool) (f : Nat → Int) (fr : Int) (p : Option Addr) (n cp : Nat) (L : Nat → Int) (w : World) (hc : w.cell? c = some (.bool h)) (hf : w.frozen? c = false) (hL : Slc w p n L) (hfr : -1000000 ≤ fr ∧ fr ≤ 1000000) (hn : n ≤ 1000000) :
    Calls Try.prog 20 #[.pointer (some c), .agg (arrv 300 f), .int .i64 fr, .slice p n cp] w fun e w' =>
      e = .returned (.agg (arrv 300 (stepF f oneF (gwQ fr L n)))) ∧ Upd c (h || stepH f oneF (gwQ fr L n)) w w' := by
  have hcb := World.block_lt_of_cell? w c hc
  have HC := Lib.hid hc
  have HF := Lib.hid hf
  have HL := Lib.hid hL
  clear hc hf hL
  go_enter Try.func20, Try.ntmps20
  obtain ⟨W0, hW0⟩ : ∃ x, (w.alloc (.cells (arrv 300 f) 25)).alloc (.cells Try.zeroCells25 25) = x := ⟨_, rfl⟩
  have P0 : Blk W0 w.heap.size 25 300 f := by rw [← hW0]; exact (Blk.new w _ _ _).alloc _
  have Z0 : Blk W0 (w.heap.size + 1) 25 300 (fun _ => 0) := by rw [← hW0, zcov]; exact Blk.new1 w _ _ _ _
  have U0 : Upd c h w W0 := by rw [← hW0]; exact Upd.then (Upd.refl HC.out) (by (repeat (first | with_reducible exact Below.refl _ _ | with_reducible apply Below.drew | (with_reducible refine below_drewN ?_ _) | (with_reducible refine Below.alloc ?_ (by (try simp) <;> omega) _) | (with_reducible refine Below.setCell ?_ (by (try simp) <;> omega) _))))
  obtain ⟨bq, hbq⟩ : ∃ x, W0.heap.size = x := ⟨_, rfl⟩
  have h1 : w.heap.size + 1 < bq := by rw [← hbq]; exact Z0.lt
  have S2 : GwR c h bq f (fun _ => 0) w (W0.alloc (.cells #[.int .i64 0, .int .i64 0, .int .i64 0, .int .i64 0, .int .i64 0, .int .i64 0, .int .i64 0, .int .i64 0, .int .i64 0, .int .i64 0, .int .i64 0, .int .i64 0, .int .i64 0, .int .i64 0, .int .i64 0, .int .i64 0, .int .i64 0, .int .i64 0, .int .i64 0, .int .i64 0, .int .i64 0, .int .i64 0, .int .i64 0, .int .i64 0] 23)) :=
    ⟨U0.alloc _, P0.alloc _, Z0.alloc _, by rw [zcol, ← hbq]; exact Blk.new W0 _ _ _⟩
  have S2 := Lib.hid S2
  go_upto_region 1 with fail
  (try rw [hW0])
  clear P0 Z0 U0 hW0
  go_upto_region 2 with fail
  (try rw [hbq])
  generalize W0.alloc (.cells #[.int .i64 0, .int .i64 0, .int .i64 0, .int .i64 0, .int .i64 0, .int .i64 0, .int .i64 0, .int .i64 0, .int .i64 0, .int .i64 0, .int .i64 0, .int .i64 0, .int .i64 0, .int .i64 0, .int .i64 0, .int .i64 0, .int .i64 0, .int .i64 0, .int .i64 0, .int .i64 0, .int .i64 0, .int .i64 0, .int .i64 0, .int .i64 0] 23) = W3 at *
  clear hbq
  go_wp2_with fail
  go_loopw [15] (fun i wr => ∃ k : Nat, k ≤ n ∧ i = .int .i64 k ∧ Hid (GwR c h bq f (gwQ fr L k) w wr)) (fun i _ => n - (intOf i).toNat)
  case atStart => exact ⟨0, by omega, rfl, S2⟩
  case round =>
    obtain ⟨k, hk, rfl, R⟩ := hrel
    by_cases hkn : k < n
    · have d1 : decide ((k : Int) < (n : Int)) = true := by simp; omega
      obtain ⟨pb, po, rfl, hcell⟩ := HL.out k hkn
      have hne : (⟨pb, po + k, none⟩ : Addr) ≠ c := fun e => by rw [e, HC.out] at hcell; cases hcell
      have hpl := World.block_lt_of_cell? _ _ hcell
      have hcell' : wr.cell? ⟨pb, po + k, none⟩ = some (.int .i64 (L k)) := (R.out.upd.cell hpl (Ne.symm hne)).trans hcell
      have kw : IntKind.i64.wrap (fr + (k : Int)) = fr + (k : Int) := IntWalk.i64_in _ (by omega)
      obtain ⟨x, hx⟩ : ∃ x, fr + (k : Int) = x := ⟨_, rfl⟩
      rw [hx] at kw
      go_upto_region 6 with fail
      (try rw [hx]); (try rw [kw])
      by_cases hin : 0 ≤ x ∧ x < 24
      · obtain ⟨i, rfl⟩ : ∃ i : Nat, x = (i : Int) := ⟨x.toNat, by omega⟩
        have hi : i < 24 := by omega
        have q1 : decide ((0 : Int) ≤ (i : Int) ∧ (i : Int) < 24) = true := by simp; omega
        have qI : rtI fr k = true := by unfold rtI; rw [hx]; exact q1
        have qn : (fr + (k : Int)).toNat = i := by rw [hx]; simp
        have n2 := R.out.qB.cell (i := i) hi
        have n3 := R.out.qB.free i
        have EK := Lib.hid (And.intro qI qn)
        clear hcell hcell' kw hx hpl hne S2 qI qn
        go_wp2_with (go_at_call 53; (refine (is_any (i : Int) _).mono ?_); rintro e w5 ⟨rfl, rfl⟩; (rw [q1]))
        go_roundw
        case rel =>
          obtain ⟨e2, e3⟩ := EK.out
          refine ⟨k + 1, by omega, by go_num, ?_⟩
          rw [show gwQ fr L (k + 1) = Go.Proofs.Ytokcdlcmamdloaa.upd (gwQ fr L k) i (L k) from by simp only [gwQ]; rw [if_pos e2, e3]]
          exact Lib.hid (R.out.setQ h1 _ _)
        case measure => simp [intOf]; omega
      · have q1 : decide ((0 : Int) ≤ x ∧ x < 24) = false := by simpa using hin
        have qI : rtI fr k = false := by unfold rtI; rw [hx]; exact q1
        have qI' : ¬ rtI fr k = true := by rw [qI]; simp
        have EK := Lib.hid qI'
        go_wp2_with (go_at_call 53; (refine (is_any x _).mono ?_); rintro e w5 ⟨rfl, rfl⟩; (rw [q1]))
        go_roundw
        case rel =>
          refine ⟨k + 1, by omega, by go_num, ?_⟩
          rw [show gwQ fr L (k + 1) = gwQ fr L k from by simp only [gwQ]; rw [if_neg EK.out]]
          exact R
        case measure => simp [intOf]; omega
    · have hkn2 : k = n := by omega
      subst hkn2
      have d1 : decide ((k : Int) < (k : Int)) = false := by simp
      obtain ⟨Q, hQ⟩ : ∃ x, gwQ fr L k = x := ⟨_, rfl⟩
      rw [hQ] at R
      have HQ := Lib.hid hQ
      clear hQ S2
      go_upto_region 9 with fail
      refine wp_region_M (fun w' => Blk w' w.heap.size 25 300 f ∧ Blk w' bq 23 24 Q) 5 (by kernel_rfl) ?_ (fun hHeld => ?_)
      · exact ⟨R.out.pB, R.out.qB⟩
      refine wpAnyM_take 0 (v := ?_) rfl (by kernel_rfl) (fun _ _ _ h => h) (Or.inl ⟨by rfl, ?_⟩) (by assumption) ?_
      rotate_left
      · (intro wx hSw; (try dsimp only at hSw); go_simp; (try with_reducible rfl))
      (try simp only [Act.put, List.setIfInBounds_toArray, List.set_cons_zero, List.set_cons_succ])
      refine wpAnyM_take 1 (v := ?_) rfl (by kernel_rfl) (fun _ _ _ h => h) (Or.inl ⟨by rfl, ?_⟩) (by assumption) ?_
      rotate_left
      · (intro wx hSw; refine Eq.trans (run_load_row 25 (.tmp 5) (by rfl) (w.heap.size) (by rfl) _ _ _ _ (hSw.1) Try.underlying25 rfl (icov.trans (by rw [arrv_size]))) ?_; with_reducible rfl)
      (try simp only [Act.put, List.setIfInBounds_toArray, List.set_cons_zero, List.set_cons_succ])
      refine wpAnyM_take 3 (v := ?_) rfl (by kernel_rfl) (fun _ _ _ h => h) (Or.inl ⟨by rfl, ?_⟩) (by assumption) ?_
      rotate_left
      · (intro wx hSw; refine Eq.trans (run_load_row 23 (.tmp 9) (by rfl) (bq) (by rfl) _ _ _ _ (hSw.2) Try.underlying23 rfl (icol.trans (by rw [arrv_size]))) ?_; with_reducible rfl)
      (try simp only [Act.put, List.setIfInBounds_toArray, List.set_cons_zero, List.set_cons_succ])
      refine wpAnyM_oneS 2 rfl (by kernel_rfl) (fun K hK => ?_)
      go_simp
      (refine (one_any _).mono ?_); rintro e w5 ⟨rfl, hb5⟩; have R5 := Lib.hid (GwR.below (show GwR c h bq f Q w wr.drew from R.out.drew) hb5); clear hb5
      (try dsimp only)
      (try simp only [Act.put, List.setIfInBounds_toArray, List.set_cons_zero, List.set_cons_succ])
      clear hHeld
      refine hK.out _ _ ?_ (fun hHeld => ?_)
      · exact ⟨R5.out.pB, R5.out.qB⟩
      clear hK K
      (try simp only [Act.put, List.setIfInBounds_toArray, List.set_cons_zero, List.set_cons_succ])
      refine wpAnyM_oneS 4 rfl (by kernel_rfl) (fun K hK => ?_)
      go_simp
      (refine (step_any c h f oneF Q w5 (R5.out.upd.cellc HC.out) ((R5.out.upd.frozen hcb).trans HF.out)).mono ?_); rintro e w6 ⟨rfl, hu6⟩; have kp := And.intro (R5.out.pB.upd hu6 (by omega)) (R5.out.qB.upd hu6 (by omega)); have Z6 := R5.out.r0.upd hu6 (by omega); have U6 := Lib.hid (R5.out.upd.trans hu6); clear hu6
      (try dsimp only)
      (try simp only [Act.put, List.setIfInBounds_toArray, List.set_cons_zero, List.set_cons_succ])
      clear hHeld
      refine hK.out _ _ ?_ (fun hHeld => ?_)
      · exact kp
      clear hK K
      (try simp only [Act.put, List.setIfInBounds_toArray, List.set_cons_zero, List.set_cons_succ])
      refine wpAnyM_one 5 rfl (by kernel_rfl) (fun K hK => ?_)
      go_simp; rw [if_pos (arrv_size _ _), run_storeCells_row _ Z6]; go_simp
      refine hK.out _ _ (.inl (by kernel_rfl)) (fun _ => ?_)
      clear hK K
      (try simp only [Act.put, List.setIfInBounds_toArray, List.set_cons_zero, List.set_cons_succ])
      refine wpAnyM_done (by kernel_rfl) ?_ _
      go_wp2_with fail
      refine bodyPost_ret (results_cell_row Try.results20 _ _ (w.heap.size + 1) 25 (arrv 300 (stepF f oneF Q)) (0, 0) _ rfl (setRow_heap _ _ _ _ _ _ Z6) Try.underlying25 rfl (icov.trans (by rw [arrv_size]))) rfl ⟨by rw [HQ.out], ?_⟩
      rw [HQ.out]
      exact U6.out.then' (below_row (Below.refl _ _) (by omega) _)
end Go.Proofs.Ytokcdlcmamdloaa
/- A slice of int64 that a call builds by append: what it owns. -/
namespace Go.Proofs.Ytokcdlcmamdloaa
open Go.RowKit
def ints (n : Nat) (L : Nat → Int) : List Value := (List.range n).map fun i => .int .i64 (L i)
theorem ints_length (n : Nat) (L : Nat → Int) : (ints n L).length = n := by simp [ints]
theorem ints_succ (n : Nat) (L : Nat → Int) : ints (n + 1) L = ints n L ++ [.int .i64 (L n)] := by simp [ints, List.range_succ]
theorem ints_get {n : Nat} {L : Nat → Int} {i : Nat} (h : i < n) : (ints n L)[i]? = some (.int .i64 (L i)) := by simp [ints, h]
theorem ints_congr {n : Nat} {L M : Nat → Int} (h : ∀ i, i < n → L i = M i) : ints n L = ints n M := by
  apply List.ext_getElem?
  intro i
  by_cases hi : i < n
  · rw [ints_get hi, ints_get hi, h i hi]
  · rw [List.getElem?_eq_none (by rw [ints_length]; omega), List.getElem?_eq_none (by rw [ints_length]; omega)]
/-- v is a slice of n numbers L in a block of its own, from block B on. -/
def Own (w : World) (B T : Nat) (v : Value) (n : Nat) (L : Nat → Int) : Prop := w.ownsRow B T 1 v n (ints n L)
theorem Own.nil (w : World) (B T : Nat) (L : Nat → Int) : Own w B T (.slice none 0 0) 0 L := World.ownsRow_nil w B T 1
theorem Own.congr {w : World} {B T : Nat} {v : Value} {n : Nat} {L M : Nat → Int} (h : Own w B T v n L) (e : ∀ i, i < n → L i = M i) : Own w B T v n M := by
  unfold Own at *; rwa [← ints_congr e]
theorem Own.kept {w w' : World} {B T : Nat} {v : Value} {n : Nat} {L : Nat → Int} (h : Own w B T v n L) (hs : ∀ k, B ≤ k → k < w.heap.size → some k = v.ownBlock → w'.heap[k]? = w.heap[k]?) : Own w' B T v n L := by
  refine ⟨h.1, ?_⟩
  rcases h.2 with hn | ⟨g, cap, cur, rfl, hb, hgg, rest⟩
  · exact .inl hn
  · refine .inr ⟨g, cap, cur, rfl, hb, ?_, rest⟩
    rw [hs g hb (Array.getElem?_eq_some_iff.1 hgg).1 rfl]
    exact hgg
theorem Own.below {w w' : World} {B T : Nat} {v : Value} {n : Nat} {L : Nat → Int} (h : Own w B T v n L) (b : Below w.heap.size w w') : Own w' B T v n L := h.kept fun k _ hk _ => b.block k hk
theorem Own.drew {w : World} {B T : Nat} {v : Value} {n : Nat} {L : Nat → Int} (h : Own w B T v n L) : Own w.drew B T v n L := h
theorem Own.alloc {w : World} {B T : Nat} {v : Value} {n : Nat} {L : Nat → Int} (h : Own w B T v n L) (o : Obj) : Own (w.alloc o) B T v n L := h.below ((Below.refl _ _).alloc (Nat.le_refl _) o)
theorem Own.upd {w w' : World} {B T : Nat} {v : Value} {n : Nat} {L : Nat → Int} (h : Own w B T v n L) {c : Addr} {f : Bool} (u : Upd c f w w') (hc : c.block < B) : Own w' B T v n L := h.kept fun k hB hk _ => u.block hk (by omega)
theorem Own.grown {w w' : World} {B T : Nat} {v : Value} {n : Nat} {L : Nat → Int} (h : Own w B T v n L) {r : Option Nat} (g : w.grownBy w' r) (hn : ∀ k, v.ownBlock = some k → r ≠ some k) : Own w' B T v n L :=
  h.kept fun k _ hk e => g.block k hk (fun e2 => hn k e.symm e2.symm)
theorem Own.raise {w : World} {B B' T : Nat} {v : Value} {n : Nat} {L : Nat → Int} (h : Own w B T v n L) (hb : B' ≤ B) : Own w B' T v n L := by
  refine ⟨h.1, ?_⟩
  rcases h.2 with hn | ⟨g, cap, cur, rfl, hb2, hgg, rest⟩
  · exact .inl hn
  · exact .inr ⟨g, cap, cur, rfl, by omega, hgg, rest⟩
theorem Own.other {w : World} {B T : Nat} {v : Value} {n : Nat} {L : Nat → Int} (h : Own w B T v n L) {a : Addr} (ha : v.ownBlock ≠ some a.block) (x : Value) : Own (w.setCell a x) B T v n L :=
  h.kept fun k _ _ e => heap_setCell_other w a k x (fun e2 => ha (by rw [← e, e2]))
/-- As a slice: its numbers. -/
theorem Own.slc {w : World} {B T : Nat} {v : Value} {n : Nat} {L : Nat → Int} (h : Own w B T v n L) (hn : 0 < n) :
    ∃ g cp, v = .slice (some ⟨g, 0, none⟩) n cp ∧ B ≤ g ∧ g < w.heap.size ∧ ∀ i, i < n → w.cell? ⟨g, 0 + i, none⟩ = some (.int .i64 (L i)) := by
  rcases h.2 with ⟨_, h0⟩ | ⟨g, cap, cur, rfl, hb, hgg, h1, h2, h3, h4⟩
  · omega
  · refine ⟨g, cap, rfl, hb, (Array.getElem?_eq_some_iff.1 hgg).1, fun i hi => ?_⟩
    rw [Nat.zero_add, cell_of_row w g i cur T (0, 0) hgg]
    have := ints_get (L := L) hi
    rw [← h4, List.getElem?_take] at this
    split at this
    · simpa using this
    · cases this
/-- Whatever is behind an append: below the first own block nothing has turned. -/
theorem below_grown {B : Nat} {w0 w w' : World} {r : Option Nat} (b : Below B w0 w) (g : w.grownBy w' r) (hr : ∀ k, r = some k → B ≤ k) (hB : B ≤ w.heap.size) : Below B w0 w' :=
  b.trans ⟨g.os, g.tape, g.output, g.size, fun k hk => by
    exact g.block k (by omega) (fun e => by have := hr k e.symm; omega)⟩
end Go.Proofs.Ytokcdlcmamdloaa
/- append of one number of int64 to a slice of the call's own. -/
namespace Go.Proofs.Ytokcdlcmamdloaa
open Go.RowKit
open Go
theorem info_i64 : (Try.prog.info? 2).map (fun i => (i.zero, i.size, i.bytes)) = some (some (.int .i64 0), 1, 8) := by kernel_rfl
theorem info_i64' : ∃ i, Try.prog.info? 2 = some i ∧ i.zero = some (.int .i64 0) ∧ i.size = 1 ∧ i.bytes = 8 := by
  have h := info_i64
  cases e : Try.prog.info? 2 with
  | none => rw [e] at h; cases h
  | some i => rw [e] at h; simp at h; exact ⟨i, rfl, h.1, h.2.1, h.2.2⟩
theorem own_snoc {n : Nat} {L : Nat → Int} {x : Int} : ints n L ++ [.int .i64 x] = ints (n + 1) (upd L n x) := by
  rw [ints_succ]
  congr 1
  · exact ints_congr fun i hi => by simp [upd, show ¬ i = n by omega]
  · simp [upd]
theorem run_app1 {w : World} (B : Nat) {v : Value} {n : Nat} {L : Nat → Int} (hown : Own w B 2 v n L) (nb c : Nat) (x : Int) (hx : w.cell? ⟨nb, 0, none⟩ = some (.int .i64 x)) (hn : n ≤ 1000000) (hB : B ≤ w.heap.size) (ty : TypeId) (H : Nat) (hH : w.heap.size = H) :
    ∃ g cap w', (Builtin.append_ #[52, 52] ty #[v, .slice (some ⟨nb, 0, none⟩) 1 c]).run Try.prog w = .ok (.slice (some ⟨g, 0, none⟩) (n + 1) cap) w' ∧
      Own w' B 2 (.slice (some ⟨g, 0, none⟩) (n + 1) cap) (n + 1) (upd L n x) ∧ w.grownBy w' v.ownBlock ∧ (v.ownBlock = some g ∨ g = H) ∧ g < w'.heap.size := by
  obtain ⟨i, hi, hz, hs, hb⟩ := info_i64'
  obtain ⟨g, cap, w', h1, h2, h3, h4, h5⟩ := run_append_lies (P := Try.prog) w 52 ty B 2 i (.int .i64 0) 1 8 Try.underlying52 hi hz hs hb rfl (by decide) v n (ints n L) hown ⟨nb, 0, none⟩ 1 c [.int .i64 x] rfl
    (fun j u hu => by
      have hj : j = 0 := by
        have := List.getElem?_eq_some_iff.1 hu
        obtain ⟨h, _⟩ := this
        simpa using h
      subst hj
      simp at hu
      subst hu
      simpa [Addr.add] using hx) (fun u hu => by rw [List.mem_singleton] at hu; subst hu; rfl) (by decide) (by unfold maxLen; omega) (by omega) hB H hH
  exact ⟨g, cap, w', h1, by unfold Own; rw [← own_snoc]; exact h2, h3, h4, h5⟩
theorem wp_app1 {w : World} {o : Oper} {a : Act} {K : Act → World → Prop} {Q : Exit → Act → World → Prop} (s x : Operand)
    (ho : o.op = .call { callee := .builtin .append, args := #[s, x], argTypes := #[52, 52] })
    (B : Nat) {v : Value} {n : Nat} {L : Nat → Int} (hs : a.eval s = v) (hown : Own w B 2 v n L) (nb c : Nat) (y : Int) (hx : a.eval x = .slice (some ⟨nb, 0, none⟩) 1 c) (hy : w.cell? ⟨nb, 0, none⟩ = some (.int .i64 y)) (hn : n ≤ 1000000) (hB : B ≤ w.heap.size) (H : Nat) (hH : w.heap.size = H)
    (h : ∀ g cap w', Own w' B 2 (.slice (some ⟨g, 0, none⟩) (n + 1) cap) (n + 1) (upd L n y) → w.grownBy w' v.ownBlock → (v.ownBlock = some g ∨ g = H) → g < w'.heap.size → K (a.put o.dst (.slice (some ⟨g, 0, none⟩) (n + 1) cap)) w') : o.wp Try.prog a w K Q := by
  obtain ⟨g, cap, w', hr, h2, h3, h4, h5⟩ := run_app1 B hown nb c y hy hn hB o.type H hH
  unfold Oper.wp execOp
  simp only [ho, resolve, invoke, builtin, Sem.run_bind, Sem.run_pure, Result.andThen_ok, List.map_toArray, List.map_cons, List.map_nil, hs, hx, hr]
  exact h g cap w' h2 h3 h4 h5
theorem wpList_app1 {w : World} {ops : Array Oper} {rest : List Oper} {o : Oper} {a : Act} {Q : Exit → Act → World → Prop} (hgd : o.guard = none) (s x : Operand)
    (ho : o.op = .call { callee := .builtin .append, args := #[s, x], argTypes := #[52, 52] })
    (B : Nat) {v : Value} {n : Nat} {L : Nat → Int} (hs : a.eval s = v) (hown : Own w B 2 v n L) (nb c : Nat) (y : Int) (hx : a.eval x = .slice (some ⟨nb, 0, none⟩) 1 c) (hy : w.cell? ⟨nb, 0, none⟩ = some (.int .i64 y)) (hn : n ≤ 1000000) (hB : B ≤ w.heap.size) (H : Nat) (hH : w.heap.size = H)
    (h : ∀ g cap w', Own w' B 2 (.slice (some ⟨g, 0, none⟩) (n + 1) cap) (n + 1) (upd L n y) → w.grownBy w' v.ownBlock → (v.ownBlock = some g ∨ g = H) → g < w'.heap.size → wpList Try.prog ops Q rest (a.put o.dst (.slice (some ⟨g, 0, none⟩) (n + 1) cap)) w') : wpList Try.prog ops Q (o :: rest) a w :=
  wpList_plain hgd fun _ hK => wp_app1 s x ho B hs hown nb c y hx hy hn hB H hH fun g cap w' h2 h3 h4 h5 => hK _ _ (h g cap w' h2 h3 h4 h5)
theorem step_app1 {w : World} {ops : Array Oper} {o : Oper} {a : Act} {K : Act → World → Prop} {Q : Exit → Act → World → Prop} {E : Prop} (hgd : o.guard = none) (s x : Operand)
    (ho : o.op = .call { callee := .builtin .append, args := #[s, x], argTypes := #[52, 52] })
    (B : Nat) {v : Value} {n : Nat} {L : Nat → Int} (hs : a.eval s = v) (hown : Own w B 2 v n L) (nb c : Nat) (y : Int) (hx : a.eval x = .slice (some ⟨nb, 0, none⟩) 1 c) (hy : w.cell? ⟨nb, 0, none⟩ = some (.int .i64 y)) (hn : n ≤ 1000000) (hB : B ≤ w.heap.size) (H : Nat) (hH : w.heap.size = H)
    (h : ∀ g cap w', Own w' B 2 (.slice (some ⟨g, 0, none⟩) (n + 1) cap) (n + 1) (upd L n y) → w.grownBy w' v.ownBlock → (v.ownBlock = some g ∨ g = H) → g < w'.heap.size → K (a.put o.dst (.slice (some ⟨g, 0, none⟩) (n + 1) cap)) w') :
    if Region.wanted o (yielded ops a.tmps) = true then Oper.wp Try.prog o a w K Q else E := by
  have hw : Region.wanted o (yielded ops a.tmps) = true := by simp [Region.wanted, hgd]
  rw [if_pos hw]
  exact wp_app1 s x ho B hs hown nb c y hx hy hn hB H hH h
end Go.Proofs.Ytokcdlcmamdloaa
/- thornton.Step of variances alone, One and one number more: what comes out (plain law, 1). No program. -/
namespace Go.Proofs.Ytokcdlcmamdloaa
def atU (f : Nat → Int) (i m : Nat) : Nat → Int := fun q => uV f i (m + q)
def atX (f : Nat → Int) (j m : Nat) : Nat → Int := fun q => mulV (uV f j (m + q)) (f (276 + (m + q))) 30
def atV (f : Nat → Int) (i j : Nat) : Int := dotV 30 (atU f i (max i j)) (atX f j (max i j)) (24 - max i j)
def atB (f : Nat → Int) (j m : Nat) : Nat → Bool := fun q => mulH (uV f j (m + q)) (f (276 + (m + q))) 30
def atH (f : Nat → Int) (i j : Nat) : Bool := orB (atB f j (max i j)) (24 - max i j) || dotH 30 (atU f i (max i j)) (atX f j (max i j)) (24 - max i j)
def SB (x : Int) : Prop := -1152921504606846976 ≤ x ∧ x ≤ 1152921504606846976
theorem satV_sb {x : Int} (h : SB x) : satV x = x := satV_id h.1 h.2
theorem satH_sb {x : Int} (h : SB x) : satH x = false := satH_no h.1 h.2
theorem sb_0 : SB 0 := by unfold SB; omega
theorem sb_one : SB 1073741824 := by unfold SB; omega
/-- A stage that leaves the rows: those ahead have nothing in common with row j. -/
theorem stage_q {W e : Nat → Int} {j : Nat} (hj : j < 24) (hW : ∀ x, x < 1152 → SB (W x)) (_he : ∀ k, k < 48 → SB (e k))
    (hY : ∀ i, i < j → ∀ k, k < 48 → W (i * 48 + k) = 0 ∨ stY W e j k = 0) (hY2 : ∀ k, k < 48 → SB (stY W e j k)) (hy : ∀ k, k < 48 → yB W e j k = false) (hd : dB W e j = false) :
    (∀ x, x < 1152 → elW W e j j 0 x = W x) ∧ (∀ i, i < j → stU W e j i = 0) ∧ stageH W e j = false := by
  have hD : 1 ≤ stD W e j ∧ stD W e j ≤ 72057594037927936 := by unfold stD; exact varV_bd _
  have hz : ∀ i, i < j → dotS (rowF 48 W i) (stY W e j) 48 = 0 := fun i hi => dotS_no fun k hk => hY i hi k hk
  have hu : ∀ i, i < j → stU W e j i = 0 := by
    intro i hi
    unfold stU dotV
    rw [if_neg (by decide), hz i hi, show (30 : Int).toNat = 30 from rfl, rsh_0, satV_0]
    exact divV_z (by rw [satV_id (by omega) (by omega)]; omega) _
  have huB : ∀ i, i < j → uB W e j i = false := by
    intro i hi
    unfold uB dotV dotH
    rw [if_neg (by decide), if_neg (by decide), hz i hi, show (30 : Int).toNat = 30 from rfl, rsh_0, satV_0, satH_0, divH_z hD.1 (by omega) (by decide) (by decide)]
    rw [dotB_no (A := rowF 48 W i) fun k hk => ⟨satH_sb (hW (i * 48 + k) (by omega)), satH_sb (hY2 k hk)⟩]; rfl
  refine ⟨fun x hx => ?_, hu, ?_⟩
  · unfold elW
    split
    · unfold elV
      rw [hu _ (by omega), mulV_0, show x / 48 * 48 + x % 48 = x by omega]
      exact subV_0 (hW x hx).1 (hW x hx).2
    · rfl
  · unfold stageH
    rw [hd, orB_no hy, orB_no]; rfl
    intro i hi
    unfold rowB
    rw [huB i hi, orB_no]; rfl
    intro k hk
    have h1 := hW (j * 48 + k) (by omega)
    have h2 := hW (i * 48 + k) (by omega)
    unfold elB
    rw [hu i hi, mulV_0, mulH_0 h1.1 h1.2, subH_0 h2.1 h2.2]; rfl
/-- Row j is One at j and at 24 + j alone. -/
theorem plain_row {W e : Nat → Int} {j : Nat} (hj : j < 24) (hr : ∀ k, k < 48 → W (j * 48 + k) = if k = j ∨ k = 24 + j then 1073741824 else 0) (he : ∀ k, k < 48 → SB (e k)) (h24 : e (24 + j) = 0) (h1 : 1 ≤ e j ∧ e j ≤ 72057594037927936) :
    (∀ k, k < 48 → stY W e j k = if k = j then e j else 0) ∧ (∀ k, k < 48 → yB W e j k = false) ∧ dotS (rowF 48 W j) (stY W e j) 48 = 1073741824 * e j := by
  have hY : ∀ k, k < 48 → stY W e j k = if k = j then e j else 0 := by
    intro k hk
    unfold stY
    rw [hr k hk]
    have := he k hk
    by_cases e1 : k = j
    · rw [if_pos (.inl e1), if_pos e1, e1]; exact mulV_one (by omega) (by omega)
    · rw [if_neg e1]
      by_cases e2 : k = 24 + j
      · rw [if_pos (.inr e2), e2, h24]; decide
      · rw [if_neg (by omega)]; exact mulV_0 _
  refine ⟨hY, fun k hk => ?_, ?_⟩
  · unfold yB
    rw [hr k hk]
    have := he k hk
    split
    · exact mulH_one this.1 this.2
    · exact mulH_0 this.1 this.2
  · rw [dotS_1 (a := j) (by omega)]
    · rw [hY j (by omega), if_pos rfl]
      simp only [rowF]
      rw [hr j (by omega), if_pos (.inl rfl), satV_one, satV_id (by omega) (by omega)]
    · intro k hk hne
      right; rw [hY k hk, if_neg hne]
theorem plain_D {W e : Nat → Int} {j : Nat} (hj : j < 24) (hW : ∀ x, x < 1152 → SB (W x)) (hr : ∀ k, k < 48 → W (j * 48 + k) = if k = j ∨ k = 24 + j then 1073741824 else 0) (he : ∀ k, k < 48 → SB (e k)) (h24 : e (24 + j) = 0) (h1 : 1 ≤ e j ∧ e j ≤ 72057594037927936) :
    stD W e j = e j ∧ dB W e j = false := by
  obtain ⟨hY, _, hS⟩ := plain_row hj hr he h24 h1
  have hb : dotB (rowF 48 W j) (stY W e j) 48 = false := dotB_no fun k hk => ⟨satH_sb (hW _ (by omega)), by rw [hY k hk]; split; exact satH_no (by omega) (by omega); exact satH_0⟩
  unfold stD dB dotV dotH
  rw [if_neg (by decide), if_neg (by decide), hS, hb, show (30 : Int).toNat = 30 from rfl, rsh_mul, satV_id (by omega) (by omega), satH_no (by omega) (by omega), (varV_id h1.1 h1.2).1, (varV_id h1.1 h1.2).2]
  exact ⟨rfl, rfl⟩
/-- A plain stage: row j is One alone, and no row ahead has a number at j. -/
theorem stage_plain {W e : Nat → Int} {j : Nat} (hj : j < 24) (hW : ∀ x, x < 1152 → SB (W x)) (hr : ∀ k, k < 48 → W (j * 48 + k) = if k = j ∨ k = 24 + j then 1073741824 else 0) (he : ∀ k, k < 48 → SB (e k)) (h24 : e (24 + j) = 0)
    (h1 : 1 ≤ e j ∧ e j ≤ 72057594037927936) (hc : ∀ i, i < j → W (i * 48 + j) = 0) :
    (∀ x, x < 1152 → elW W e j j 0 x = W x) ∧ (∀ i, i < j → stU W e j i = 0) ∧ stageH W e j = false ∧ stD W e j = e j := by
  obtain ⟨hY, hy, _⟩ := plain_row hj hr he h24 h1
  obtain ⟨hD, hd⟩ := plain_D hj hW hr he h24 h1
  obtain ⟨a, b, c⟩ := stage_q hj hW he (fun i hi k hk => by
    by_cases e1 : k = j
    · left; rw [e1]; exact hc i hi
    · right; rw [hY k hk, if_neg e1]) (fun k hk => by rw [hY k hk]; split; exact he _ (by omega); exact sb_0) hy hd
  exact ⟨a, b, c, hD⟩
/-- The out so far, at a plain stage: D of row j, and noughts above it. -/
theorem outI_plain {O W e : Nat → Int} {j : Nat} (hj : j < 24) (hu : ∀ i, i < j → stU W e j i = 0) (hO : ∀ x, j * (j - 1) / 2 ≤ x → x < j * (j - 1) / 2 + j → O x = 0) : ∀ m, m ≤ j → ∀ x, outI O W e j m x = if x = 276 + j then stD W e j else O x
  | 0, _, x => by simp only [outI, upd]
  | m + 1, hm, x => by
    have ht := tri_le hj
    simp only [outI, upd]
    rw [outI_plain hj hu hO m (by omega) x, hu m (by omega)]
    split
    · rename_i h1
      unfold pl at h1
      rw [if_neg (by omega), hO x (by omega) (by omega)]
    · rfl
end Go.Proofs.Ytokcdlcmamdloaa
/- Part of a block of numbers, loaded or stored as a whole. -/
namespace Go.Proofs.Ytokcdlcmamdloaa
open Go.RowKit
open Go in
theorem run_loadVar_sub {P : Program} {w : World} {g T N : Nat} {f : Nat → Int} (h : Blk w g T N f) (o n : Nat) (hon : o + n ≤ N) (ty : TypeId) (d : TypeDesc)
    (hu : P.underlying ty = some d) (hd : (match d with | .struct _ | .array _ _ => true | _ => false) = true) (hi : (P.info? ty).map (·.size) = some n) :
    (loadVar ty ⟨g, o, none⟩).run P w = .ok (.agg (arrv n (fun i => f (o + i)))) w := by
  have hl : (loadCells ⟨g, o, none⟩ (arrv n (fun i => f (o + i))).toList.length).run P w = .ok (arrv n (fun i => f (o + i))).toList.toArray w :=
    run_loadCells_list (P := P) w ⟨g, o, none⟩ (arrv n (fun i => f (o + i))).toList (fun j v hv => by
      have hadd : (⟨g, o, none⟩ : Addr).add j = ⟨g, o + j, none⟩ := by unfold Addr.add; split <;> simp_all
      have hv' : (arrv n (fun i => f (o + i)))[j]? = some v := by simpa using hv
      have hj : j < n := by
        rcases Nat.lt_or_ge j n with h' | h'
        · exact h'
        · rw [Array.getElem?_eq_none (by rw [arrv_size]; omega)] at hv'; cases hv'
      rw [arrv_get hj] at hv'
      rw [hadd, h.cell (by omega)]; exact hv')
  cases hq : P.info? ty with
  | none => simp [hq] at hi
  | some i =>
    have hs : i.size = n := by simpa [hq] using hi
    have hagg : (isAgg ty).run P w = .ok true w := by
      unfold isAgg
      rw [Sem.run_bind, run_underlying hu w]
      cases d <;> simp_all
    simp only [Array.length_toList, Array.toArray_toList, arrv_size] at hl
    simp [loadVar, Sem.run_bind, hagg, sizeOf, typeInfo, hq, hs, hl]
open Go in
theorem wp_load_sub {P : Program} {o' : Oper} {a : Act} {w : World} {K : Act → World → Prop} {Q : Exit → Act → World → Prop} (ty : TypeId) (x : Operand) (ho : o'.op = .load ty x)
    (g o n : Nat) (hx : a.eval x = .pointer (some ⟨g, o, none⟩)) {T N : Nat} {f : Nat → Int} (h : Blk w g T N f) (hon : o + n ≤ N) (d : TypeDesc)
    (hu : P.underlying ty = some d) (hd : (match d with | .struct _ | .array _ _ => true | _ => false) = true) (hi : (P.info? ty).map (·.size) = some n)
    (hK : K (a.put o'.dst (.agg (arrv n (fun i => f (o + i))))) w) : o'.wp P a w K Q := by
  unfold Oper.wp execOp
  simp only [ho, hx, Instr.loadAt, Instr.sureAddr, Sem.run_bind, Sem.run_pure, Result.andThen_ok, run_loadVar_sub h o n hon ty d hu hd hi]
  exact hK
open Go in
theorem wpList_load_sub {P : Program} {ops : Array Oper} {rest : List Oper} {o' : Oper} {a : Act} {w : World} {Q : Exit → Act → World → Prop} (hgd : o'.guard = none) (ty : TypeId) (x : Operand) (ho : o'.op = .load ty x)
    (g o n : Nat) (hx : a.eval x = .pointer (some ⟨g, o, none⟩)) {T N : Nat} {f : Nat → Int} (h : Blk w g T N f) (hon : o + n ≤ N) (d : TypeDesc)
    (hu : P.underlying ty = some d) (hd : (match d with | .struct _ | .array _ _ => true | _ => false) = true) (hi : (P.info? ty).map (·.size) = some n)
    (hK : wpList P ops Q rest (a.put o'.dst (.agg (arrv n (fun i => f (o + i))))) w) : wpList P ops Q (o' :: rest) a w :=
  wpList_plain hgd fun _ hk => wp_load_sub ty x ho g o n hx h hon d hu hd hi (hk _ _ hK)
/-- The same inside a region that draws its order. -/
theorem run_load_sub {P : Program} {o' : Oper} {ev : Operand → Value} {w : World} (ty : TypeId) (x : Operand) (ho : o'.op = .load ty x)
    (g o n : Nat) (hx : ev x = .pointer (some ⟨g, o, none⟩)) {T N : Nat} {f : Nat → Int} (h : Blk w g T N f) (hon : o + n ≤ N) (d : TypeDesc)
    (hu : P.underlying ty = some d) (hd : (match d with | .struct _ | .array _ _ => true | _ => false) = true) (hi : (P.info? ty).map (·.size) = some n) :
    (execOp ev o').run P w = .ok (.value (.agg (arrv n (fun i => f (o + i))))) w := by
  unfold execOp
  simp [ho, hx, Instr.loadAt, Instr.sureAddr, Sem.run_bind, run_loadVar_sub h o n hon ty d hu hd hi]
end Go.Proofs.Ytokcdlcmamdloaa
/- Contract of tri.At: a number of the covariance. -/
namespace Go.Proofs.Ytokcdlcmamdloaa
open Go.RowKit
set_option maxRecDepth 100000
structure AtR (c : Addr) (h : Bool) (f : Nat → Int) (i j m : Nat) (u x : Value) (n : Nat) (w wr : World) : Prop where
  upd : Upd c (h || orB (atB f j m) n) w wr
  blk : Blk wr w.heap.size 25 300 f
  ou : Own wr (w.heap.size + 1) 2 u n (atU f i m)
  ox : Own wr (w.heap.size + 1) 2 x n (atX f j m)
  ne : ∀ g, u.ownBlock = some g → x.ownBlock ≠ some g
theorem ownBlock_lt {w : World} {B T : Nat} {v : Value} {n : Nat} {L : Nat → Int} (h : Own w B T v n L) {g : Nat} (e : v.ownBlock = some g) : B ≤ g ∧ g < w.heap.size := World.ownsRow.lt h g e
theorem snoc_fun {n : Nat} {L : Nat → Int} {y : Int} (e : y = L n) : ∀ i, i < n + 1 → upd L n y i = L i := fun i _ => by
  unfold upd; split
  · rename_i h; rw [h, e]
  · rfl
set_option maxHeartbeats 4000000 in
theorem at_any (c : Addr) (h : Bool) (f : Nat → Int) (i j : Nat) (w : World) (hc : w.cell? c = some (.bool h)) (hf : w.frozen? c = false) (hi : i < 24) (hj : j < 24) :
    Calls Try.prog 56 #[.pointer (some c), .agg (arrv 300 f), .int .i64 i, .int .i64 j] w fun e w' => e = .returned (.int .i64 (atV f i j)) ∧ Upd c (h || atH f i j) w w' := by
  have hcb := World.block_lt_of_cell? w c hc
  have HC := Lib.hid hc
  have HF := Lib.hid hf
  clear hc hf
  obtain ⟨m, hm⟩ : ∃ m, max i j = m := ⟨_, rfl⟩
  have hm24 : m < 24 := by omega
  have ev : atV f i j = dotV 30 (atU f i m) (atX f j m) (24 - m) := by unfold atV; rw [hm]
  have eh : (h || atH f i j) = (h || orB (atB f j m) (24 - m) || dotH 30 (atU f i m) (atX f j m) (24 - m)) := by unfold atH; rw [hm, Bool.or_assoc]
  rw [ev, eh]
  clear ev eh
  go_enter Try.func56, Try.ntmps56
  go_wp2_with fail
  go_loopw [9, 10, 11] (fun u x k wr => ∃ q : Nat, m ≤ q ∧ q ≤ 24 ∧ k = .int .i64 (q : Int) ∧ Hid (AtR c h f i j m u x (q - m) w wr)) (fun _ _ k _ => 24 - (intOf k).toNat)
  case atStart =>
    refine ⟨m, Nat.le_refl _, by omega, by congr 1; omega, ?_⟩
    rw [Nat.sub_self]
    refine ⟨?_, Blk.new w _ _ _, Own.nil _ _ _ _, Own.nil _ _ _ _, fun g hg => by cases hg⟩
    rw [show (h || orB (atB f j m) 0) = h from by simp [orB]]
    exact Upd.then (Upd.refl HC.out) (by (repeat (first | with_reducible exact Below.refl _ _ | with_reducible apply Below.drew | (with_reducible refine below_drewN ?_ _) | (with_reducible refine Below.alloc ?_ (by (try simp) <;> omega) _) | (with_reducible refine Below.setCell ?_ (by (try simp) <;> omega) _))))
  case round =>
    obtain ⟨q, hmq, hq24, rfl, R⟩ := hrel
    by_cases hlt : q < 24
    · obtain ⟨n, hn⟩ : ∃ n, q - m = n := ⟨_, rfl⟩
      rw [hn] at R
      have hqn : m + n = q := by omega
      have hn24 : n ≤ 24 := by omega
      have HQN := Lib.hid hqn
      clear hn hqn
      have d1 : decide ((q : Int) < 24) = true := by simp; omega
      have PB := R.out.blk
      have U1 := Lib.hid R.out.upd
      have O1 := Lib.hid R.out.ou
      have O2 := Lib.hid R.out.ox
      have NE := Lib.hid R.out.ne
      have hbl := PB.lt
      clear R
      go_upto_region 8 with (first | (refine wpList_load_row rfl 25 _ rfl w.heap.size rfl 25 _ (0, 0) _ PB Try.underlying25 rfl (icov.trans (by rw [arrv_size])) ?_) | (go_at_call 46; (refine (u_any f i q _ hi hlt).mono ?_); rintro e w2 ⟨rfl, hb2⟩; have HB2 := Lib.hid hb2; have hz2 := hb2.size; clear hb2) | (refine wpList_app1 rfl (.tmp 29) (.tmp 34) rfl (w.heap.size + 1) rfl ((O1.out.below HB2.out).alloc _) w2.heap.size 1 (uV f i q) rfl (by simp [go_sem]) (by omega) (by simp; omega) (w2.heap.size + 1) (by simp) ?_; intro g1 cp1 w3 hO1 hg1 hat1 hlt1; have HO1 := Lib.hid hO1; have HG1 := Lib.hid hg1; have HA1 := Lib.hid hat1; clear hO1 hg1 hat1))
      have hA2 : Below wr.heap.size wr (w2.alloc (.cells #[.int .i64 (uV f i q)] 2)) := HB2.out.alloc hz2 _
      have hG : Below (w.heap.size + 1) wr w3 := below_grown (hA2.mono (by omega)) HG1.out (fun k hk => (ownBlock_lt O1.out hk).1) (by simp; omega)
      have hz3 : wr.heap.size ≤ w3.heap.size := hG.size
      have PB3 : w3.heap[w.heap.size]? = some (.cells (arrv 300 f) 25 (0, 0)) := (hG.block _ (by omega)).trans PB
      have U3 := U1.out.then' (hG.mono (by omega))
      have c3 := U3.cellc HC.out
      have f3 := (U3.frozen hcb).trans HF.out
      have O23 : Own w3 (w.heap.size + 1) 2 u10 n (atX f j m) := ((O2.out.below hA2)).grown HG1.out (fun k hk e => NE.out k e.symm.symm hk)
      have NG : u10.ownBlock ≠ some g1 := by
        rcases HA1.out with e | e
        · exact NE.out g1 e
        · intro e2
          have := (ownBlock_lt O2.out e2).2
          omega
      have HO13 := Lib.hid (HO1.out.congr (snoc_fun (n := n) (L := atU f i m) (by simp only [atU]; rw [HQN.out])))
      have HO23 := Lib.hid O23
      have HU3 := Lib.hid U3
      have hq0 : (0 : Int) ≤ (q : Int) := Int.natCast_nonneg _
      have hq1 : (q : Int) < 24 := by omega
      have hl3 : w.heap.size < w3.heap.size := Blk.lt (f := f) PB3
      have HNG := Lib.hid NG
      clear PB hA2 HB2 U1 O1 O2 NE hbl hz2 HA1 HO1 O23 U3 HG1 hG NG
      refine wp_region_M (fun w' => w'.heap[w.heap.size]? = some (.cells (arrv 300 f) 25 (0, 0))) 13 (by kernel_rfl) ?_ (fun hHeld => ?_)
      · exact PB3
      refine wpAnyM_take 0 (v := ?_) rfl (by kernel_rfl) (fun _ _ _ h => h) (Or.inl ⟨by rfl, ?_⟩) (by assumption) ?_
      rotate_left
      · (intro wx hSw; (try dsimp only at hSw); go_simp; (try with_reducible rfl))
      (try simp only [Act.put, List.setIfInBounds_toArray, List.set_cons_zero, List.set_cons_succ])
      refine wpAnyM_take 1 (v := ?_) rfl (by kernel_rfl) (fun _ _ _ h => h) (Or.inl ⟨by rfl, ?_⟩) (by assumption) ?_
      rotate_left
      · (intro wx hSw; (try dsimp only at hSw); go_simp; (try with_reducible rfl))
      (try simp only [Act.put, List.setIfInBounds_toArray, List.set_cons_zero, List.set_cons_succ])
      refine wpAnyM_take 2 (v := ?_) rfl (by kernel_rfl) (fun _ _ _ h => h) (Or.inl ⟨by rfl, ?_⟩) (by assumption) ?_
      rotate_left
      · (intro wx hSw; refine Eq.trans (run_load_row 25 (.tmp 5) (by rfl) (w.heap.size) (by rfl) _ _ _ _ (hSw) Try.underlying25 rfl (icov.trans (by rw [arrv_size]))) ?_; with_reducible rfl)
      (try simp only [Act.put, List.setIfInBounds_toArray, List.set_cons_zero, List.set_cons_succ])
      refine wpAnyM_take 3 (v := ?_) rfl (by kernel_rfl) (fun _ _ _ h => h) (Or.inl ⟨by rfl, ?_⟩) (by assumption) ?_
      rotate_left
      · (intro wx hSw; (try dsimp only at hSw); go_simp; (try with_reducible rfl))
      (try simp only [Act.put, List.setIfInBounds_toArray, List.set_cons_zero, List.set_cons_succ])
      refine wpAnyM_take 4 (v := ?_) rfl (by kernel_rfl) (fun _ _ _ h => h) (Or.inl ⟨by rfl, ?_⟩) (by assumption) ?_
      rotate_left
      · (intro wx hSw; (try dsimp only at hSw); go_simp; (try with_reducible rfl))
      (try simp only [Act.put, List.setIfInBounds_toArray, List.set_cons_zero, List.set_cons_succ])
      refine wpAnyM_take 6 (v := ?_) rfl (by kernel_rfl) (fun _ _ _ h => h) (Or.inl ⟨by rfl, ?_⟩) (by assumption) ?_
      rotate_left
      · (intro wx hSw; (try dsimp only at hSw); go_simp; (try with_reducible rfl))
      (try simp only [Act.put, List.setIfInBounds_toArray, List.set_cons_zero, List.set_cons_succ])
      refine wpAnyM_take 7 (v := ?_) rfl (by kernel_rfl) (fun _ _ _ h => h) (Or.inl ⟨by rfl, ?_⟩) (by assumption) ?_
      rotate_left
      · (intro wx hSw; (try dsimp only at hSw); go_simp; (try with_reducible rfl))
      (try simp only [Act.put, List.setIfInBounds_toArray, List.set_cons_zero, List.set_cons_succ])
      refine wpAnyM_take 8 (v := ?_) rfl (by kernel_rfl) (fun _ _ _ h => h) (Or.inl ⟨by rfl, ?_⟩) (by assumption) ?_
      rotate_left
      · (intro wx hSw; (try dsimp only at hSw); go_simp; (try with_reducible rfl))
      (try simp only [Act.put, List.setIfInBounds_toArray, List.set_cons_zero, List.set_cons_succ])
      refine wpAnyM_take 9 (v := ?_) rfl (by kernel_rfl) (fun _ _ _ h => h) (Or.inl ⟨by rfl, ?_⟩) (by assumption) ?_
      rotate_left
      · (intro wx hSw; have hq := Blk.cell (f := f) (i := 276 + q) hSw (by omega); go_simp; (try with_reducible rfl))
      (try simp only [Act.put, List.setIfInBounds_toArray, List.set_cons_zero, List.set_cons_succ])
      refine wpAnyM_oneS 5 rfl (by kernel_rfl) (fun K hK => ?_)
      go_simp
      (refine (u_any f j q _ hj hlt).mono ?_); rintro e w4 ⟨rfl, hb4⟩; have HB4 := Lib.hid (Below.after (Below.drew (Below.refl w3.heap.size w3)) hb4); have kp := (HB4.out.block w.heap.size (by omega)).trans PB3; have hz4 := HB4.out.size; have c4 := (HB4.out.cell (World.block_lt_of_cell? _ _ c3)).trans c3; have f4 := (HB4.out.frozen (World.block_lt_of_cell? _ _ c3)).trans f3; clear hb4
      (try dsimp only)
      (try simp only [Act.put, List.setIfInBounds_toArray, List.set_cons_zero, List.set_cons_succ])
      clear hHeld
      refine hK.out _ _ ?_ (fun hHeld => ?_)
      · exact kp
      clear hK K
      (try simp only [Act.put, List.setIfInBounds_toArray, List.set_cons_zero, List.set_cons_succ])
      refine wpAnyM_oneS 10 rfl (by kernel_rfl) (fun K hK => ?_)
      go_simp
      (refine (fmul_any c _ (uV f j q) (f (276 + q)) 30 _ c4 f4).mono ?_); rintro e w5 ⟨rfl, hu5⟩; have kp2 := (hu5.block (k := w.heap.size) (by omega) (by omega)).trans kp; have HU5 := Lib.hid hu5; have hz5 := hu5.size; have kp3 : ∀ o, (w5.alloc o).heap[w.heap.size]? = some (.cells (arrv 300 f) 25 (0, 0)) := (fun o => Blk.alloc (show Blk w5 w.heap.size 25 300 f from kp2) o); have O25 := Lib.hid (((HO23.out.below HB4.out).upd HU5.out (by omega)).alloc (.cells #[.int .i64 (mulV (uV f j q) (f (276 + q)) 30)] 2)); clear hu5
      (try dsimp only)
      (try simp only [Act.put, List.setIfInBounds_toArray, List.set_cons_zero, List.set_cons_succ])
      clear hHeld
      refine hK.out _ _ ?_ (fun hHeld => ?_)
      · exact kp2
      clear hK K
      (try simp only [Act.put, List.setIfInBounds_toArray, List.set_cons_zero, List.set_cons_succ])
      refine wpAnyM_oneS 11 rfl (by kernel_rfl) (fun K hK => ?_)
      go_simp
      clear hHeld
      refine hK.out _ _ ?_ (fun hHeld => ?_)
      · exact kp3 _
      clear hK K
      (try simp only [Act.put, List.setIfInBounds_toArray, List.set_cons_zero, List.set_cons_succ])
      refine wpAnyM_oneS 12 rfl (by kernel_rfl) (fun K hK => ?_)
      refine step_app1 rfl (.tmp 36) (.tmp 47) rfl (w.heap.size + 1) rfl O25.out w5.heap.size 1 (mulV (uV f j q) (f (276 + q)) 30) rfl (by simp [go_sem]) (by omega) (by simp; omega) (w5.heap.size + 1) (by simp) ?_; intro g2 cp2 w6 hO2 hg2 hat2 hlt2; have HG6 := Lib.hid (below_grown (Below.refl (w.heap.size + 1) (w5.alloc (.cells #[.int .i64 (mulV (uV f j q) (f (276 + q)) 30)] 2))) hg2 (fun k hk => (ownBlock_lt O25.out hk).1) (by simp; omega)); have kp4 := (HG6.out.block w.heap.size (by omega)).trans (kp3 _); have HO26 := Lib.hid hO2; have HGR := Lib.hid hg2; have HAT := Lib.hid hat2; clear hO2 hg2 hat2
      clear hHeld
      refine hK.out _ _ ?_ (fun hHeld => ?_)
      · exact kp4
      clear hK K
      (try simp only [Act.put, List.setIfInBounds_toArray, List.set_cons_zero, List.set_cons_succ])
      refine wpAnyM_one 13 rfl (by kernel_rfl) (fun K hK => ?_)
      go_simp
      refine hK.out _ _ (.inl (by kernel_rfl)) (fun _ => ?_)
      clear hK K
      (try simp only [Act.put, List.setIfInBounds_toArray, List.set_cons_zero, List.set_cons_succ])
      refine wpAnyM_done (by kernel_rfl) ?_ _
      go_wp2_with fail
      go_roundw
      case rel =>
        have hcb' : c.block < w.heap.size + 1 := by omega
        refine ⟨q + 1, by omega, by omega, by go_num, ?_⟩
        rw [show q + 1 - m = n + 1 by have := HQN.out; omega]
        refine ⟨?_, kp4, ?_, HO26.out.congr (snoc_fun (n := n) (L := atX f j m) (by simp only [atX]; rw [HQN.out])), ?_⟩
        · rw [show (h || orB (atB f j m) (n + 1)) = (h || orB (atB f j m) n || mulH (uV f j q) (f (276 + q)) 30) from by simp [orB, atB, HQN.out, Bool.or_assoc]]
          exact ((((HU3.out.then HB4.out).trans HU5.out).alloc _).then' (HG6.out.mono (by omega)))
        · refine Own.grown (((HO13.out.below HB4.out).upd HU5.out hcb').alloc _) HGR.out (fun k hk e => ?_)
          have hk' : g1 = k := by simpa [Value.ownBlock] using hk
          subst hk'
          exact HNG.out e
        · intro g hg e
          have hg' : g1 = g := by simpa [Value.ownBlock] using hg
          have he' : g2 = g := by simpa [Value.ownBlock] using e
          subst hg'
          subst he'
          rcases HAT.out with e | e
          · exact HNG.out e
          · omega
      case measure => simp [intOf]; omega
    · obtain rfl : q = 24 := by omega
      rw [show ((24 : Nat) : Int) = 24 from rfl]
      obtain ⟨gu, cu, rfl, hBu, hlu, hcu⟩ := R.out.ou.slc (by omega)
      obtain ⟨gx, cx, rfl, hBx, hlx, hcx⟩ := R.out.ox.slc (by omega)
      have U1 := Lib.hid R.out.upd
      have c1 := U1.out.cellc HC.out
      have f1 := (U1.out.frozen hcb).trans HF.out
      have DC := Lib.hid (dot_any c _ 30 (atU f i m) (atX f j m) gu 0 cu gx 0 cx (24 - m) wr c1 f1 (by decide) (by decide) (by omega) hcu hcx)
      clear R hcu hcx
      go_wp2_with (go_at_call 32; (refine DC.out.mono ?_); rintro e w3 ⟨rfl, hu3⟩)
      go_ret
      exact ⟨rfl, U1.out.trans hu3⟩
end Go.Proofs.Ytokcdlcmamdloaa
/- Contract of block.Forget. -/
namespace Go.Proofs.Ytokcdlcmamdloaa
open Go.RowKit
set_option maxRecDepth 100000
/-- Is the k-th number a state that is not forgotten yet? -/
def fgI (F : Nat → Int) (x : Int) : Bool := decide (0 ≤ x ∧ x < 24) && decide (F (x.toNat * 24 + x.toNat) ≠ 0)
def fgF (L : Nat → Int) : Nat → Nat → Int | 0 => oneF | k + 1 => if fgI (fgF L k) (L k) = true then upd (fgF L k) ((L k).toNat * 24 + (L k).toNat) 0 else fgF L k
def fgQ (f L : Nat → Int) : Nat → Nat → Int | 0 => fun _ => 0 | k + 1 => if fgI (fgF L k) (L k) = true then upd (fgQ f L k) (L k).toNat (varV (atV f (L k).toNat (L k).toNat)) else fgQ f L k
def fgB (f L : Nat → Int) (k : Nat) : Bool := if fgI (fgF L k) (L k) = true then atH f (L k).toNat (L k).toNat || varH (atV f (L k).toNat (L k).toNat) else false
set_option maxHeartbeats 4000000 in
theorem forget_any (c : Addr) (h : Bool) (f : Nat → Int) (p : Option Addr) (n cp : Nat) (L : Nat → Int) (w : World) (hc : w.cell? c = some (.bool h)) (hf : w.frozen? c = false) (hL : Slc w p n L) (hn : n ≤ 1000000) :
    Calls Try.prog 22 #[.pointer (some c), .agg (arrv 300 f), .slice p n cp] w fun e w' =>
      e = .returned (.agg (arrv 300 (stepF f (fgF L n) (fgQ f L n)))) ∧ Upd c (h || orB (fgB f L) n || stepH f (fgF L n) (fgQ f L n)) w w' := by
  have hcb := World.block_lt_of_cell? w c hc
  have HC := Lib.hid hc
  have HF := Lib.hid hf
  have HL := Lib.hid hL
  clear hc hf hL
  go_enter Try.func22, Try.ntmps22
  obtain ⟨W0, hW0⟩ : ∃ x, (w.alloc (.cells (arrv 300 f) 25)).alloc (.cells Try.zeroCells25 25) = x := ⟨_, rfl⟩
  have P0 : Blk W0 w.heap.size 25 300 f := by rw [← hW0]; exact (Blk.new w _ _ _).alloc _
  have Z0 : Blk W0 (w.heap.size + 1) 25 300 (fun _ => 0) := by rw [← hW0, zcov]; exact Blk.new1 w _ _ _ _
  have U0 : Upd c h w W0 := by rw [← hW0]; exact Upd.then (Upd.refl HC.out) (by (repeat (first | with_reducible exact Below.refl _ _ | with_reducible apply Below.drew | (with_reducible refine below_drewN ?_ _) | (with_reducible refine Below.alloc ?_ (by (try simp) <;> omega) _) | (with_reducible refine Below.setCell ?_ (by (try simp) <;> omega) _))))
  have hz0 := Z0.lt
  go_upto_region 1 with fail
  (try rw [hW0])
  go_upto_region 2 with (first | (go_at_call 26; (refine (one_any _).mono ?_); rintro e w1 ⟨rfl, hb1⟩; have P1 := Lib.hid (P0.below hb1); have Z1 := Lib.hid (Z0.below hb1); have U1 := Lib.hid (U0.then hb1); have R1 : Blk (w1.alloc (.cells Try.zeroCells27 27)) w1.heap.size 27 576 (fun _ => 0) := (by rw [zmat]; exact Blk.new _ _ _ _); clear hb1) | (refine wpList_store_row rfl 27 _ _ rfl (w1.heap.size) _ rfl rfl 27 _ (R1) (imat.trans (by rw [arrv_size])) (by rw [arrv_size, arrv_size]) (oneCell_arrv _ _) ?_))
  obtain ⟨w2, hw2⟩ : ∃ x, x = ((w1.alloc (.cells Try.zeroCells27 27)).setRow w1.heap.size (arrv 576 oneF)) := ⟨_, rfl⟩
  rw [← hw2]
  obtain ⟨M2, MB⟩ := Blk.made zmat oneF hw2
  obtain ⟨bf, hbf⟩ : ∃ x, w1.heap.size = x := ⟨_, rfl⟩
  obtain ⟨bq, hbq⟩ : ∃ x, w2.heap.size = x := ⟨_, rfl⟩
  have h1 : w.heap.size + 1 < bf := by rw [← hbf]; exact Z1.out.lt
  rw [hbf] at M2 ⊢
  have h2 : bf < bq := by rw [← hbq]; exact M2.lt
  have S2 : RtR c h bf bq f oneF (fun _ => 0) w (w2.alloc (.cells #[.int .i64 0, .int .i64 0, .int .i64 0, .int .i64 0, .int .i64 0, .int .i64 0, .int .i64 0, .int .i64 0, .int .i64 0, .int .i64 0, .int .i64 0, .int .i64 0, .int .i64 0, .int .i64 0, .int .i64 0, .int .i64 0, .int .i64 0, .int .i64 0, .int .i64 0, .int .i64 0, .int .i64 0, .int .i64 0, .int .i64 0, .int .i64 0] 23)) :=
    ⟨(U1.out.then MB).alloc _, (P1.out.below MB).alloc _, (Z1.out.below MB).alloc _, M2.alloc _, by rw [zcol, ← hbq]; exact Blk.new w2 _ _ _⟩
  have S2 := Lib.hid S2
  clear P0 Z0 U0 hz0 R1 hw2 M2 MB P1 Z1 U1 hW0 hbf
  go_upto_region 3 with fail
  (try rw [hbq])
  generalize w2.alloc (.cells #[.int .i64 0, .int .i64 0, .int .i64 0, .int .i64 0, .int .i64 0, .int .i64 0, .int .i64 0, .int .i64 0, .int .i64 0, .int .i64 0, .int .i64 0, .int .i64 0, .int .i64 0, .int .i64 0, .int .i64 0, .int .i64 0, .int .i64 0, .int .i64 0, .int .i64 0, .int .i64 0, .int .i64 0, .int .i64 0, .int .i64 0, .int .i64 0] 23) = W3 at *
  clear hbq
  go_wp2_with fail
  go_loopw [14] (fun i wr => ∃ k : Nat, k ≤ n ∧ i = .int .i64 k ∧ Hid (RtR c (h || orB (fgB f L) k) bf bq f (fgF L k) (fgQ f L k) w wr)) (fun i _ => n - (intOf i).toNat)
  case atStart =>
    refine ⟨0, by omega, rfl, ?_⟩
    rw [show (h || orB (fgB f L) 0) = h from by simp [orB]]
    exact S2
  case round =>
    obtain ⟨k, hk, rfl, R⟩ := hrel
    by_cases hkn : k < n
    · have d1 : decide ((k : Int) < (n : Int)) = true := by simp; omega
      obtain ⟨pb, po, rfl, hcell⟩ := HL.out k hkn
      have hne : (⟨pb, po + k, none⟩ : Addr) ≠ c := fun e => by rw [e, HC.out] at hcell; cases hcell
      have hpl := World.block_lt_of_cell? _ _ hcell
      have hcell' : wr.cell? ⟨pb, po + k, none⟩ = some (.int .i64 (L k)) := (R.out.upd.cell hpl (Ne.symm hne)).trans hcell
      obtain ⟨x, hx⟩ : ∃ x, L k = x := ⟨_, rfl⟩
      rw [hx] at hcell'
      by_cases hin : 0 ≤ x ∧ x < 24
      · obtain ⟨i, rfl⟩ : ∃ i : Nat, x = (i : Int) := ⟨x.toNat, by omega⟩
        have hi : i < 24 := by omega
        have q1 : decide ((0 : Int) ≤ (i : Int) ∧ (i : Int) < 24) = true := by simp; omega
        have m0 := R.out.fB.cell (i := i * 24 + i) (by omega)
        by_cases hz : fgF L k (i * 24 + i) = 0
        · rw [hz] at m0
          have q2 : ((0 : Int) != 0) = false := by simp
          have qI : ¬ fgI (fgF L k) (L k) = true := by unfold fgI; rw [hx, Int.toNat_natCast, hz]; simp
          have EK := Lib.hid qI
          clear hcell hx hpl hne S2 qI
          go_wp2_with (go_at_call 53; (refine (is_any (i : Int) _).mono ?_); rintro e w5 ⟨rfl, rfl⟩; (rw [q1]))
          go_roundw
          case rel =>
            refine ⟨k + 1, by omega, by go_num, ?_⟩
            rw [show (h || orB (fgB f L) (k + 1)) = (h || orB (fgB f L) k) from by simp only [orB, fgB]; rw [if_neg EK.out, Bool.or_false], show fgF L (k + 1) = fgF L k from by simp only [fgF]; rw [if_neg EK.out], show fgQ f L (k + 1) = fgQ f L k from by simp only [fgQ]; rw [if_neg EK.out]]
            exact R
          case measure => simp [intOf]; omega
        · have qI : fgI (fgF L k) (L k) = true := by unfold fgI; rw [hx, Int.toNat_natCast, q1]; simp [hz]
          obtain ⟨FV, hFV⟩ : ∃ y, fgF L k (i * 24 + i) = y := ⟨_, rfl⟩
          rw [hFV] at m0 hz
          have q2 : (FV != 0) = true := by simpa using hz
          obtain ⟨HK, hHK⟩ : ∃ y, (h || orB (fgB f L) k) = y := ⟨_, rfl⟩
          obtain ⟨AV, hAV⟩ : ∃ y, atV f i i = y := ⟨_, rfl⟩
          obtain ⟨AH, hAH⟩ : ∃ y, atH f i i = y := ⟨_, rfl⟩
          rw [hHK] at R
          have HR := Lib.hid R.out
          have qn : (L k).toNat = i := by rw [hx]; simp
          have EK := Lib.hid (And.intro hHK (And.intro qI (And.intro qn (And.intro hAV hAH))))
          have AC := Lib.hid (at_any c HK f i i wr.drew (by exact R.out.upd.cellc HC.out) (by exact (R.out.upd.frozen hcb).trans HF.out) hi hi)
          rw [hAV, hAH] at AC
          have PB := Lib.hid R.out.pB
          go_upto_region 7 with (go_at_call 53; (refine (is_any (i : Int) _).mono ?_); rintro e w5 ⟨rfl, rfl⟩; (rw [q1]))
          clear R hHK qI qn hcell hcell' hx q1 q2 hpl hne S2 hFV hAV hAH m0 hz
          refine wp_region_M (fun w' => Blk w' w.heap.size 25 300 f) 14 (by kernel_rfl) ?_ (fun hHeld => ?_)
          · exact PB.out
          refine wpAnyM_take 0 (v := ?_) rfl (by kernel_rfl) (fun _ _ _ h => h) (Or.inl ⟨by rfl, ?_⟩) (by assumption) ?_
          rotate_left
          · (intro wx hSw; (try dsimp only at hSw); go_simp; (try with_reducible rfl))
          (try simp only [Act.put, List.setIfInBounds_toArray, List.set_cons_zero, List.set_cons_succ])
          refine wpAnyM_take 1 (v := ?_) rfl (by kernel_rfl) (fun _ _ _ h => h) (Or.inl ⟨by rfl, ?_⟩) (by assumption) ?_
          rotate_left
          · (intro wx hSw; (try dsimp only at hSw); go_simp; (try with_reducible rfl))
          (try simp only [Act.put, List.setIfInBounds_toArray, List.set_cons_zero, List.set_cons_succ])
          refine wpAnyM_take 2 (v := ?_) rfl (by kernel_rfl) (fun _ _ _ h => h) (Or.inl ⟨by rfl, ?_⟩) (by assumption) ?_
          rotate_left
          · (intro wx hSw; (try dsimp only at hSw); go_simp; (try with_reducible rfl))
          (try simp only [Act.put, List.setIfInBounds_toArray, List.set_cons_zero, List.set_cons_succ])
          refine wpAnyM_take 3 (v := ?_) rfl (by kernel_rfl) (fun _ _ _ h => h) (Or.inl ⟨by rfl, ?_⟩) (by assumption) ?_
          rotate_left
          · (intro wx hSw; (try dsimp only at hSw); go_simp; (try with_reducible rfl))
          (try simp only [Act.put, List.setIfInBounds_toArray, List.set_cons_zero, List.set_cons_succ])
          refine wpAnyM_take 4 (v := ?_) rfl (by kernel_rfl) (fun _ _ _ h => h) (Or.inl ⟨by rfl, ?_⟩) (by assumption) ?_
          rotate_left
          · (intro wx hSw; (try dsimp only at hSw); go_simp; (try with_reducible rfl))
          (try simp only [Act.put, List.setIfInBounds_toArray, List.set_cons_zero, List.set_cons_succ])
          refine wpAnyM_take 5 (v := ?_) rfl (by kernel_rfl) (fun _ _ _ h => h) (Or.inl ⟨by rfl, ?_⟩) (by assumption) ?_
          rotate_left
          · (intro wx hSw; refine Eq.trans (run_load_row 25 (.tmp 4) (by rfl) (w.heap.size) (by rfl) _ _ _ _ (hSw) Try.underlying25 rfl (icov.trans (by rw [arrv_size]))) ?_; with_reducible rfl)
          (try simp only [Act.put, List.setIfInBounds_toArray, List.set_cons_zero, List.set_cons_succ])
          refine wpAnyM_take 6 (v := ?_) rfl (by kernel_rfl) (fun _ _ _ h => h) (Or.inl ⟨by rfl, ?_⟩) (by assumption) ?_
          rotate_left
          · (intro wx hSw; (try dsimp only at hSw); go_simp; (try with_reducible rfl))
          (try simp only [Act.put, List.setIfInBounds_toArray, List.set_cons_zero, List.set_cons_succ])
          refine wpAnyM_take 7 (v := ?_) rfl (by kernel_rfl) (fun _ _ _ h => h) (Or.inl ⟨by rfl, ?_⟩) (by assumption) ?_
          rotate_left
          · (intro wx hSw; (try dsimp only at hSw); go_simp; (try with_reducible rfl))
          (try simp only [Act.put, List.setIfInBounds_toArray, List.set_cons_zero, List.set_cons_succ])
          refine wpAnyM_take 10 (v := ?_) rfl (by kernel_rfl) (fun _ _ _ h => h) (Or.inl ⟨by rfl, ?_⟩) (by assumption) ?_
          rotate_left
          · (intro wx hSw; (try dsimp only at hSw); go_simp; (first | rw [if_pos (by omega)] | rw [if_pos ⟨by omega, by omega⟩] | skip); (try with_reducible rfl))
          (try simp only [Act.put, List.setIfInBounds_toArray, List.set_cons_zero, List.set_cons_succ])
          refine wpAnyM_take 11 (v := ?_) rfl (by kernel_rfl) (fun _ _ _ h => h) (Or.inl ⟨by rfl, ?_⟩) (by assumption) ?_
          rotate_left
          · (intro wx hSw; (try dsimp only at hSw); go_simp; (first | rw [if_pos (by omega)] | rw [if_pos ⟨by omega, by omega⟩] | skip); (try with_reducible rfl))
          (try simp only [Act.put, List.setIfInBounds_toArray, List.set_cons_zero, List.set_cons_succ])
          refine wpAnyM_oneS 8 rfl (by kernel_rfl) (fun K hK => ?_)
          go_simp
          (refine AC.out.mono ?_); rintro e w5 ⟨rfl, hu5⟩; have R5 := Lib.hid (HR.out.upd' hcb h1 h2 (Upd.after (Below.drew (Below.refl _ _)) hu5)); clear hu5
          (try dsimp only)
          (try simp only [Act.put, List.setIfInBounds_toArray, List.set_cons_zero, List.set_cons_succ])
          clear hHeld
          refine hK.out _ _ ?_ (fun hHeld => ?_)
          · exact R5.out.pB
          clear hK K
          (try simp only [Act.put, List.setIfInBounds_toArray, List.set_cons_zero, List.set_cons_succ])
          refine wpAnyM_oneS 9 rfl (by kernel_rfl) (fun K hK => ?_)
          go_simp
          (refine (bvar_any c (HK || AH) AV w5 (R5.out.upd.cellc HC.out) ((R5.out.upd.frozen hcb).trans HF.out)).mono ?_); rintro e w6 ⟨rfl, hw6⟩; have R6 := Lib.hid (R5.out.upd' hcb h1 h2 ((Upd.set c (HK || AH || varH AV) w5).then (by rw [hw6]; exact Below.refl _ _))); have n0 := R6.out.fB.cell (i := i * 24 + i) (by omega); have n1 := R6.out.fB.free (i * 24 + i); have n2 := (R6.out.qB.other (a := ⟨bf, i * 24 + i, none⟩) (by simp; omega) (.int .i64 0)).cell (i := i) hi; have n3 := (R6.out.qB.other (a := ⟨bf, i * 24 + i, none⟩) (by simp; omega) (.int .i64 0)).free i; clear hw6
          (try dsimp only)
          (try simp only [Act.put, List.setIfInBounds_toArray, List.set_cons_zero, List.set_cons_succ])
          clear hHeld
          refine hK.out _ _ ?_ (fun hHeld => ?_)
          · exact R6.out.pB
          clear hK K
          (try simp only [Act.put, List.setIfInBounds_toArray, List.set_cons_zero, List.set_cons_succ])
          refine wpAnyM_oneS 12 rfl (by kernel_rfl) (fun K hK => ?_)
          go_simp
          clear hHeld
          refine hK.out _ _ ?_ (fun hHeld => ?_)
          · exact R6.out.pB.other (by simp; omega) _
          clear hK K
          (try simp only [Act.put, List.setIfInBounds_toArray, List.set_cons_zero, List.set_cons_succ])
          refine wpAnyM_take 13 (v := ?_) rfl (by kernel_rfl) (fun _ _ _ h => h) (Or.inl ⟨by rfl, ?_⟩) (by assumption) ?_
          rotate_left
          · (intro wx hSw; (try dsimp only at hSw); go_simp; (first | rw [if_pos (by omega)] | rw [if_pos ⟨by omega, by omega⟩] | skip); (try with_reducible rfl))
          (try simp only [Act.put, List.setIfInBounds_toArray, List.set_cons_zero, List.set_cons_succ])
          refine wpAnyM_one 14 rfl (by kernel_rfl) (fun K hK => ?_)
          go_simp
          refine hK.out _ _ (.inl (by kernel_rfl)) (fun _ => ?_)
          clear hK K
          (try simp only [Act.put, List.setIfInBounds_toArray, List.set_cons_zero, List.set_cons_succ])
          refine wpAnyM_done (by kernel_rfl) ?_ _
          have R7 := Lib.hid (R6.out.setFQ h1 h2 (i * 24 + i) i 0 (varV AV))
          generalize (w6.setCell ⟨bf, i * 24 + i, none⟩ (.int .i64 0)).setCell ⟨bq, i, none⟩ (.int .i64 (varV AV)) = W7 at *
          clear n0 n1 n2 n3 R5 R6 HR AC PB
          (try clear hHeld)
          go_wp2_with fail
          go_roundw
          case rel =>
            obtain ⟨e1, e2, e3, e4, e5⟩ := EK.out
            refine ⟨k + 1, by omega, by go_num, ?_⟩
            rw [show (h || orB (fgB f L) (k + 1)) = (HK || AH || varH AV) from by simp only [orB, fgB]; rw [if_pos e2, e3, e4, e5, ← e1]; simp [Bool.or_assoc], show fgF L (k + 1) = Go.Proofs.Ytokcdlcmamdloaa.upd (fgF L k) (i * 24 + i) 0 from by simp only [fgF]; rw [if_pos e2, e3], show fgQ f L (k + 1) = Go.Proofs.Ytokcdlcmamdloaa.upd (fgQ f L k) i (varV AV) from by simp only [fgQ]; rw [if_pos e2, e3, e4]]
            exact R7
          case measure => simp [intOf]; omega
      · have q1 : decide ((0 : Int) ≤ x ∧ x < 24) = false := by simpa using hin
        have qI : ¬ fgI (fgF L k) (L k) = true := by unfold fgI; rw [hx, q1]; simp
        have EK := Lib.hid qI
        clear hcell hx hpl hne S2 qI
        go_wp2_with (go_at_call 53; (refine (is_any x _).mono ?_); rintro e w5 ⟨rfl, rfl⟩; (rw [q1]))
        go_roundw
        case rel =>
          refine ⟨k + 1, by omega, by go_num, ?_⟩
          rw [show (h || orB (fgB f L) (k + 1)) = (h || orB (fgB f L) k) from by simp only [orB, fgB]; rw [if_neg EK.out, Bool.or_false], show fgF L (k + 1) = fgF L k from by simp only [fgF]; rw [if_neg EK.out], show fgQ f L (k + 1) = fgQ f L k from by simp only [fgQ]; rw [if_neg EK.out]]
          exact R
        case measure => simp [intOf]; omega
    · have hkn2 : k = n := by omega
      subst hkn2
      have d1 : decide ((k : Int) < (k : Int)) = false := by simp
      have P1 := R.out.pB
      have P2 := R.out.fB
      have P3 := R.out.qB
      have SC := Lib.hid (step_any c _ f (fgF L k) (fgQ f L k) wr (R.out.upd.cellc HC.out) ((R.out.upd.frozen hcb).trans HF.out))
      go_wp2_with (first | (refine wpList_load_row rfl 25 _ rfl (w.heap.size) rfl 25 _ (0, 0) _ (P1) Try.underlying25 rfl (icov.trans (by rw [arrv_size])) ?_) | (refine wpList_load_row rfl 27 _ rfl (bf) rfl 27 _ (0, 0) _ (P2) Try.underlying27 rfl (imat.trans (by rw [arrv_size])) ?_) | (refine wpList_load_row rfl 23 _ rfl (bq) rfl 23 _ (0, 0) _ (P3) Try.underlying23 rfl (icol.trans (by rw [arrv_size])) ?_) | (go_at_call 7; (refine SC.out.mono ?_); rintro e w8 ⟨rfl, hu8⟩; have Z8 := R.out.r0.upd hu8 (by omega); have U8 := Lib.hid (R.out.upd.trans hu8); clear hu8) | (refine wpList_store_row rfl 25 _ _ rfl (w.heap.size + 1) _ rfl rfl 25 _ (Z8) (icov.trans (by rw [arrv_size])) (by rw [arrv_size, arrv_size]) (oneCell_arrv _ _) ?_))
      refine bodyPost_ret (results_cell_row Try.results22 _ _ (w.heap.size + 1) 25 (arrv 300 (stepF f (fgF L k) (fgQ f L k))) (0, 0) _ rfl (setRow_heap _ _ _ _ _ _ Z8) Try.underlying25 rfl (icov.trans (by rw [arrv_size]))) rfl ⟨rfl, ?_⟩
      exact U8.out.then' (below_row (Below.refl _ _) (by omega) _)
end Go.Proofs.Ytokcdlcmamdloaa
