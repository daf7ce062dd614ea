/- Contracts of the program's functions and plain laws, part 12: they hold for all arguments. -/
import Derived.Test.YtgfklheepkgedaaGreatQ05
import Derived.Test.YtgfklheepkgedaaGreatQ04
import Derived.Test.YtgfklheepkgedaaGreatQ03
import Derived.Test.YtgfklheepkgedaaGreatQ09
import Derived.Test.YtgfklheepkgedaaGreatQ11
import Derived.Test.YtgfklheepkgedaaGreatQ08
/- Numbers stored inside a block. -/
namespace Go.Proofs.YtgfklheepkgedaaGreat
open Go.RowKit
def putF (f : Nat → Int) (o n : Nat) (F : Nat → Int) : Nat → Int := fun i => if o ≤ i ∧ i < o + n then F (i - o) else f i
theorem arrv_splice (N o n : Nat) (f F : Nat → Int) (h : o + n ≤ N) : ((arrv N f).toList.take o ++ (arrv n F).toList ++ (arrv N f).toList.drop (o + n)).toArray = arrv N (putF f o n F) := by
 have l1 : ((arrv N f).toList.take o ++ (arrv n F).toList ++ (arrv N f).toList.drop (o + n)).length = N := by simp [arrv_size]; omega
 apply Array.ext_getElem?
 intro i
 by_cases hi : i < N
 ·rw [arrv_get hi]
  unfold putF
  simp only [List.getElem?_toArray]
  by_cases h1 : i < o
  ·rw [if_neg (by omega), List.append_assoc, List.getElem?_append_left (by simp [arrv_size]; omega), List.getElem?_take, if_pos h1, Array.getElem?_toList, arrv_get hi]
  ·by_cases h2 : i < o + n
   ·rw [if_pos (by omega), List.getElem?_append_left (by simp [arrv_size]; omega), List.getElem?_append_right (by simp [arrv_size]; omega)]
    simp only [List.length_take, Array.length_toList, arrv_size, Array.getElem?_toList]
    rw [show i - min o N = i - o by omega, arrv_get (by omega)]
   ·rw [if_neg (by omega), List.getElem?_append_right (by simp [arrv_size]; omega)]
    simp only [List.length_append, List.length_take, Array.length_toList, arrv_size, List.getElem?_drop, Array.getElem?_toList]
    rw [show o + n + (i - (min o N + n)) = i by omega, arrv_get hi]
 ·rw [Array.getElem?_eq_none (xs := arrv N _) (by rw [arrv_size]; omega), Array.getElem?_eq_none (by simp only [List.size_toArray]; omega)]
open Go in
theorem run_storeCells_sub {P : Program} {w : World} {g T N : Nat} {f : Nat → Int} (F : Nat → Int) (o n : Nat) (h : Blk w g T N f) (hon : o + n ≤ N) :
  (storeCells ⟨g, o, none⟩ (arrv n F).toList).run P w = .ok () (w.setRow g (arrv N (putF f o n F))) := by
 have e := run_storeCells_at (P := P) g o T (arrv n F).toList 0 (arrv N f) w h (by simp [arrv_size]; omega) (fun v hv => (Array.all_eq_true'.1 (oneCell_arrv n F)) v (by simpa using hv))
 rw [e]
 congr 2
 simp only [Nat.add_zero, Array.length_toList, arrv_size]
 exact arrv_splice N o n f F hon
open Go in
theorem run_store_sub {P : Program} {ev : Operand → Value} {o' : Oper} {w : World} (ty : TypeId) (x y : Operand) (ho : o'.op = .store ty x y)
  (g o : Nat) (hx : ev x = .pointer (some ⟨g, o, none⟩)) {T N n : Nat} {F f : Nat → Int} (hy : ev y = .agg (arrv n F)) (hg : Blk w g T N f) (hon : o + n ≤ N) (hi : (P.info? ty).map (·.size) = some n) :
  (execOp ev o').run P w = .ok .skip (w.setRow g (arrv N (putF f o n F))) := by
 have h := run_storeCells_sub (P := P) F o n hg hon
 have hs : (storeVar ty ⟨g, o, none⟩ (.agg (arrv n F))).run P w = .ok () (w.setRow g (arrv N (putF f o n F))) := by
  cases hq : P.info? ty with
  | none => simp [hq] at hi
  | some i =>
   have hs : n = i.size := by simp [hq] at hi; omega
   have hz : (arrv n F).size = i.size := by rw [arrv_size]; exact hs
   simp [storeVar, sizeOf, typeInfo, hq, Value.cells, hz, h]
 unfold execOp
 simp only [ho, hx, hy, Instr.storeAt, Instr.sureAddr, Sem.run_bind, Sem.run_pure, Result.andThen_ok, hs]
end Go.Proofs.YtgfklheepkgedaaGreat
/- A region that draws its order: one of three may come up. -/
namespace Go.Proofs.YtgfklheepkgedaaGreat
open Go.RowKit
set_option maxRecDepth 100000
open Go in
theorem wpAnyM_threeS {P : Program} {ops : Array Oper} {Q : Exit → Act → World → Prop} {md : Region.Mode} {L : Nat} {S : World → Prop} (i j l : Nat) {oi oj ol : Oper} {fuel : Nat} {listed : Array Bool} {a : Act} {w : World} (hi : ops.toList[i]? = some oi) (hj : ops.toList[j]? = some oj) (hl : ops.toList[l]? = some ol) (hr : Region.ready md ops listed = [i, j, l])
  (h1 : ∀ K : Act → World → Prop, Shut (∀ a w, S w → (S w → wpAnyM P md ops Q S L fuel (listed.setIfInBounds i true) a w) → K a w) →
   if Region.wanted oi (yielded ops a.tmps) = true then Oper.wp P oi a w K Q else K (a.put oi.dst undef) w)
  (h2 : ∀ K : Act → World → Prop, Shut (∀ a w, S w → (S w → wpAnyM P md ops Q S L fuel (listed.setIfInBounds j true) a w) → K a w) →
   if Region.wanted oj (yielded ops a.tmps) = true then Oper.wp P oj a w K Q else K (a.put oj.dst undef) w)
  (h3 : ∀ K : Act → World → Prop, Shut (∀ a w, S w → (S w → wpAnyM P md ops Q S L fuel (listed.setIfInBounds l true) a w) → K a w) →
   if Region.wanted ol (yielded ops a.tmps) = true then Oper.wp P ol a w K Q else K (a.put ol.dst undef) w) :
  wpAnyM P md ops Q S L (fuel + 1) listed a w := by
 have hi' : ops[i]? = some oi := by rwa [Array.getElem?_toList] at hi
 have hj' : ops[j]? = some oj := by rwa [Array.getElem?_toList] at hj
 have hl' : ops[l]? = some ol := by rwa [Array.getElem?_toList] at hl
 refine ⟨fun h0 => (by rw [hr] at h0; cases h0), fun k hk => ?_⟩
 rw [hr] at hk
 have hk' : k = i ∨ k = j ∨ k = l := by simpa using hk
 rcases hk' with rfl | rfl | rfl
 ·exact wpOp_step hi' (fun K' hK => h1 K' (fun a w hS hW => hK a w ⟨.inr hS, hW hS⟩))
 ·exact wpOp_step hj' (fun K' hK => h2 K' (fun a w hS hW => hK a w ⟨.inr hS, hW hS⟩))
 ·exact wpOp_step hl' (fun K' hK => h3 K' (fun a w hS hW => hK a w ⟨.inr hS, hW hS⟩))
end Go.Proofs.YtgfklheepkgedaaGreat
/- Contract of reset.Join. -/
namespace Go.Proofs.YtgfklheepkgedaaGreat
open Go.RowKit
set_option maxRecDepth 100000
/-- The turn behind k jumps, the flags, what is told. -/
def jnT (L : Nat → Nat → Int) : Nat → Nat → Int | 0 => oneQ | k + 1 => uniV (qmV (L k) (jnT L k))
def jnB (L : Nat → Nat → Int) (k : Nat) : Bool := qmH (L k) (jnT L k) || uniH (qmV (L k) (jnT L k))
def jnO (L : Nat → Nat → Int) (k : Nat) : Nat → Int := fun i => if i < 4 then jnT L k i else 0
def jnV (L : Nat → Nat → Int) : Nat → Nat → Int := fun i j => L i (4 + j)
def jnP (L : Nat → Nat → Int) : Nat → Nat → Int := fun i j => L i (7 + j)
def jnR (L : Nat → Nat → Int) (n : Nat) : Nat → Int := putF (putF (jnO L n) 4 3 (vaV (jnV L) n)) 7 3 (vaV (jnP L) n)
def jnH (h : Bool) (L : Nat → Nat → Int) (n : Nat) : Bool := h || orB (jnB L) n || orB (vaH (jnV L) n) 3 || orB (vaH (jnP L) n) 3
/-- vec.Add of a call's own slice. -/
theorem vaddO_any (c : Addr) (h : Bool) {B : Nat} {v : Value} {n : Nat} {L : Nat → Nat → Int} (w : World) (ho : OwnV w B v n L) (hc : w.cell? c = some (.bool h)) (hf : w.frozen? c = false) (hn : n ≤ 100) (hz : n = 0 → v = .slice none 0 0) :
  Calls Tryz.prog 37 #[.pointer (some c), v] w fun e w' => e = .returned (.agg (arrv 3 (vaV L n))) ∧ Upd c (h || orB (vaH L n) 3) w w' := by
 rcases Nat.eq_zero_or_pos n with rfl | h0
 ·rw [hz rfl, show (h || orB (vaH L 0) 3) = h by rw [show orB (vaH L 0) 3 = false by simp [orB, vaH, sumB, sumS]; decide, Bool.or_false], show vaV L 0 = (fun _ => 0) from funext fun i => (show satV 0 = 0 by decide)]
  exact vadd0_any c h w hc hf
 ·rcases ho.slc with ⟨e, _⟩ | ⟨g, cp, rfl, _, _, hl⟩
  ·omega
  ·exact vadd_any c h g 0 cp n L w hc hf h0 hn hl
/-- The blocks of Join: its result, the sum so far, the velocities and the places. -/
structure JnR (c : Addr) (h : Bool) (ob : Nat) (O : Nat → Int) (a : Value) (ka : Nat) (b : Value) (kb : Nat) (LV LP : Nat → Nat → Int) (w wr : World) : Prop where
 upd : Upd c h w wr
 r : Blk wr w.heap.size 40 10 (fun _ => 0)
 o : Blk wr ob 40 10 O
 va : OwnV wr (ob + 1) a ka LV
 vb : OwnV wr (ob + 1) b kb LP
 ne : ∀ g, a.ownBlock = some g → b.ownBlock ≠ some g
 lt : w.heap.size < ob
section
variable {c : Addr} {h h' : Bool} {ob db xb : Nat} {O D X : Nat → Int} {a a' b b' : Value} {ka kb : Nat} {LV LP : Nat → Nat → Int} {w wr w' : World}
theorem JnR.down (s : JnR c h ob O a ka b kb LV LP w wr) (u : Below wr.heap.size wr w') : JnR c h ob O a ka b kb LV LP w w' := ⟨s.upd.then u, s.r.below u, s.o.below u, s.va.below u, s.vb.below u, s.ne, s.lt⟩
theorem JnR.upd' (s : JnR c h ob O a ka b kb LV LP w wr) (hc : c.block < w.heap.size) (u : Upd c h' wr w') : JnR c h' ob O a ka b kb LV LP w w' := by
 have := s.lt
 exact ⟨s.upd.trans u, s.r.upd u (by omega), s.o.upd u (by omega), s.va.upd u (by omega), s.vb.upd u (by omega), s.ne, s.lt⟩
theorem JnR.setO (s : JnR c h ob O a ka b kb LV LP w wr) (P : Nat → Int) : JnR c h ob P a ka b kb LV LP w (wr.setRow ob (arrv 10 P)) := by
 have := s.lt
 exact ⟨s.upd.then' (below_row (Below.refl _ _) (by omega) _), s.r.setRow_other _ (by omega), s.o.setRow P, s.va.row _ (fun e => by have := (s.va.blk e).1; omega), s.vb.row _ (fun e => by have := (s.vb.blk e).1; omega), s.ne, s.lt⟩
/-- .. and the jump that is looked at. -/
structure JdR (c : Addr) (h : Bool) (ob db : Nat) (O D : Nat → Int) (a : Value) (ka : Nat) (b : Value) (kb : Nat) (LV LP : Nat → Nat → Int) (w wr : World) : Prop where
 j : JnR c h ob O a ka b kb LV LP w wr
 d : Blk wr db 40 10 D
 na : a.ownBlock ≠ some db
 nb : b.ownBlock ≠ some db
 dl : ob < db
theorem JdR.down (s : JdR c h ob db O D a ka b kb LV LP w wr) (u : Below wr.heap.size wr w') : JdR c h ob db O D a ka b kb LV LP w w' := ⟨s.j.down u, s.d.below u, s.na, s.nb, s.dl⟩
theorem JdR.drew (s : JdR c h ob db O D a ka b kb LV LP w wr) : JdR c h ob db O D a ka b kb LV LP w wr.drew := s.down (Below.drew (Below.refl _ _))
theorem JdR.upd' (s : JdR c h ob db O D a ka b kb LV LP w wr) (hc : c.block < w.heap.size) (u : Upd c h' wr w') : JdR c h' ob db O D a ka b kb LV LP w w' := by
 have := s.j.lt
 have := s.dl
 exact ⟨s.j.upd' hc u, s.d.upd u (by omega), s.na, s.nb, s.dl⟩
theorem JdR.setO (s : JdR c h ob db O D a ka b kb LV LP w wr) (P : Nat → Int) : JdR c h ob db P D a ka b kb LV LP w (wr.setRow ob (arrv 10 P)) := by
 have := s.dl
 exact ⟨s.j.setO P, s.d.setRow_other _ (by omega), s.na, s.nb, s.dl⟩
theorem jd_new (s : JnR c h ob O a ka b kb LV LP w wr) (D : Nat → Int) : JdR c h ob wr.heap.size O D a ka b kb LV LP w ((wr.alloc (.cells #[.int .i64 0, .int .i64 0, .int .i64 0, .int .i64 0, .int .i64 0, .int .i64 0, .int .i64 0, .int .i64 0, .int .i64 0, .int .i64 0] 40)).setRow wr.heap.size (arrv 10 D)) := by
 have z := s.o.lt
 have bl : Below wr.heap.size wr ((wr.alloc (.cells #[.int .i64 0, .int .i64 0, .int .i64 0, .int .i64 0, .int .i64 0, .int .i64 0, .int .i64 0, .int .i64 0, .int .i64 0, .int .i64 0] 40)).setRow wr.heap.size (arrv 10 D)) := below_row ((Below.refl _ _).alloc (Nat.le_refl _) _) (Nat.le_refl _) _
 refine ⟨s.down bl, ?_, fun e => by have := (s.va.blk e).2; omega, fun e => by have := (s.vb.blk e).2; omega, z⟩
 rw [zdl]
 exact (Blk.new _ _ _ _).setRow _
/-- A block of one vector that is to be appended. -/
def XbR (xb : Nat) (X : Nat → Int) (a b : Value) (wr : World) : Prop := Blk wr xb 28 3 X ∧ a.ownBlock ≠ some xb ∧ b.ownBlock ≠ some xb
theorem XbR.down (s : XbR xb X a b wr) (u : Below wr.heap.size wr w') : XbR xb X a b w' := ⟨s.1.below u, s.2⟩
theorem jd_x (s : JdR c h ob db O D a ka b kb LV LP w wr) (X : Nat → Int) : JdR c h ob db O D a ka b kb LV LP w (wr.alloc (.cells (arrv 3 X) 28)) ∧ XbR wr.heap.size X a b (wr.alloc (.cells (arrv 3 X) 28)) :=
 ⟨s.down ((Below.refl _ _).alloc (Nat.le_refl _) _), Blk.new _ _ _ _, fun e => by have := (s.j.va.blk e).2; omega, fun e => by have := (s.j.vb.blk e).2; omega⟩
theorem jd_appA (s : JdR c h ob db O D a ka b kb LV LP w wr) (g : wr.grownBy w' a.ownBlock) {gg n cap H : Nat} (ho : OwnV w' (ob + 1) (.slice (some ⟨gg, 0, none⟩) n cap) (ka + 1) LV) (hat : a.ownBlock = some gg ∨ gg = H) (hH : wr.heap.size = H) :
  JdR c h ob db O D (.slice (some ⟨gg, 0, none⟩) n cap) (ka + 1) b kb LV LP w w' := by
 have hlt := s.j.lt
 have hb : ∀ k, k < wr.heap.size → a.ownBlock ≠ some k → w'.heap[k]? = wr.heap[k]? := fun k hl hn => g.block k hl (fun e => hn e.symm)
 have own : ∀ k, k < ob + 1 → a.ownBlock ≠ some k := fun k hk e => by have := (s.j.va.blk e).1; omega
 refine ⟨⟨s.j.upd.then' (below_grown (Below.refl _ _) g (fun k e => by have := (s.j.va.blk e).1; omega) s.j.upd.size), ?_, ?_, ho, s.j.vb.grown g (fun k hk e => s.j.ne k e hk), ?_, hlt⟩, ?_, ?_, s.nb, s.dl⟩
 ·exact (hb _ s.j.r.lt (own _ (by omega))).trans s.j.r
 ·exact (hb _ s.j.o.lt (own _ (by omega))).trans s.j.o
 ·intro k hk
  have hk' : gg = k := by simpa [Value.ownBlock] using hk
  subst hk'
  rcases hat with e | e
  ·exact s.j.ne _ e
  ·intro e2; have := (s.j.vb.blk e2).2; omega
 ·exact (hb _ s.d.lt s.na).trans s.d
 ·intro e
  have hk' : gg = db := by simpa [Value.ownBlock] using e
  subst hk'
  rcases hat with e | e
  ·exact s.na e
  ·have := s.d.lt; omega
theorem jd_appB (s : JdR c h ob db O D a ka b kb LV LP w wr) (g : wr.grownBy w' b.ownBlock) {gg n cap H : Nat} (ho : OwnV w' (ob + 1) (.slice (some ⟨gg, 0, none⟩) n cap) (kb + 1) LP) (hat : b.ownBlock = some gg ∨ gg = H) (hH : wr.heap.size = H) :
  JdR c h ob db O D a ka (.slice (some ⟨gg, 0, none⟩) n cap) (kb + 1) LV LP w w' := by
 have hlt := s.j.lt
 have hb : ∀ k, k < wr.heap.size → b.ownBlock ≠ some k → w'.heap[k]? = wr.heap[k]? := fun k hl hn => g.block k hl (fun e => hn e.symm)
 have own : ∀ k, k < ob + 1 → b.ownBlock ≠ some k := fun k hk e => by have := (s.j.vb.blk e).1; omega
 refine ⟨⟨s.j.upd.then' (below_grown (Below.refl _ _) g (fun k e => by have := (s.j.vb.blk e).1; omega) s.j.upd.size), ?_, ?_, s.j.va.grown g (fun k hk e => s.j.ne k hk e), ho, ?_, hlt⟩, ?_, s.na, ?_, s.dl⟩
 ·exact (hb _ s.j.r.lt (own _ (by omega))).trans s.j.r
 ·exact (hb _ s.j.o.lt (own _ (by omega))).trans s.j.o
 ·intro k hk e2
  have hk' : gg = k := by simpa [Value.ownBlock] using e2
  subst hk'
  rcases hat with e | e
  ·exact s.j.ne _ hk e
  ·have := (s.j.va.blk hk).2; omega
 ·exact (hb _ s.d.lt s.nb).trans s.d
 ·intro e
  have hk' : gg = db := by simpa [Value.ownBlock] using e
  subst hk'
  rcases hat with e | e
  ·exact s.nb e
  ·have := s.d.lt; omega
/-- The other block to be appended, behind the first append. -/
theorem XbR.grownA (s : XbR xb X a b wr) (g : wr.grownBy w' a.ownBlock) {gg n cap H : Nat} (hat : a.ownBlock = some gg ∨ gg = H) (hH : wr.heap.size = H) : XbR xb X (.slice (some ⟨gg, 0, none⟩) n cap) b w' := by
 refine ⟨(g.block _ s.1.lt (fun e => s.2.1 e.symm)).trans s.1, fun e => ?_, s.2.2⟩
 have hk' : gg = xb := by simpa [Value.ownBlock] using e
 subst hk'
 rcases hat with e | e
 ·exact s.2.1 e
 ·have := s.1.lt; omega
end
theorem jn_start (c : Addr) (h : Bool) (L : Nat → Nat → Int) (w w1 : World) (hc : w.cell? c = some (.bool h)) (hb : Below (w.alloc (.cells #[.int .i64 0, .int .i64 0, .int .i64 0, .int .i64 0, .int .i64 0, .int .i64 0, .int .i64 0, .int .i64 0, .int .i64 0, .int .i64 0] 40)).heap.size (w.alloc (.cells #[.int .i64 0, .int .i64 0, .int .i64 0, .int .i64 0, .int .i64 0, .int .i64 0, .int .i64 0, .int .i64 0, .int .i64 0, .int .i64 0] 40)) w1) :
  JnR c h w1.heap.size (jnO L 0) (.slice none 0 0) 0 (.slice none 0 0) 0 (jnV L) (jnP L) w ((w1.alloc (.cells #[.int .i64 0, .int .i64 0, .int .i64 0, .int .i64 0, .int .i64 0, .int .i64 0, .int .i64 0, .int .i64 0, .int .i64 0, .int .i64 0] 40)).setRow w1.heap.size (arrv 10 dl0)) ∧ Blk (w1.alloc (.cells #[.int .i64 0, .int .i64 0, .int .i64 0, .int .i64 0, .int .i64 0, .int .i64 0, .int .i64 0, .int .i64 0, .int .i64 0, .int .i64 0] 40)) w1.heap.size 40 10 (fun _ => 0) := by
 have R0 : Blk (w.alloc (.cells #[.int .i64 0, .int .i64 0, .int .i64 0, .int .i64 0, .int .i64 0, .int .i64 0, .int .i64 0, .int .i64 0, .int .i64 0, .int .i64 0] 40)) w.heap.size 40 10 (fun _ => 0) := by rw [zdl]; exact Blk.new w _ 10 _
 have X1 : Blk (w1.alloc (.cells #[.int .i64 0, .int .i64 0, .int .i64 0, .int .i64 0, .int .i64 0, .int .i64 0, .int .i64 0, .int .i64 0, .int .i64 0, .int .i64 0] 40)) w1.heap.size 40 10 (fun _ => 0) := by rw [zdl]; exact Blk.new _ _ 10 _
 have B1 : Below w1.heap.size w1 ((w1.alloc (.cells #[.int .i64 0, .int .i64 0, .int .i64 0, .int .i64 0, .int .i64 0, .int .i64 0, .int .i64 0, .int .i64 0, .int .i64 0, .int .i64 0] 40)).setRow w1.heap.size (arrv 10 dl0)) := below_row ((Below.refl _ _).alloc (Nat.le_refl _) _) (Nat.le_refl _) _
 have U0 : Upd c h w (w.alloc (.cells #[.int .i64 0, .int .i64 0, .int .i64 0, .int .i64 0, .int .i64 0, .int .i64 0, .int .i64 0, .int .i64 0, .int .i64 0, .int .i64 0] 40)) := Upd.then (Upd.refl hc) (by (repeat (first | with_reducible exact Below.refl _ _ | with_reducible apply Below.drew | (with_reducible refine below_drewN ?_ _) | (with_reducible refine Below.alloc ?_ (by (try simp) <;> omega) _) | (with_reducible refine Below.setCell ?_ (by (try simp) <;> omega) _))))
 refine ⟨⟨(U0.then hb).then B1, (R0.below hb).below B1, (X1.setRow dl0).congr fun i hi => ?_, OwnV.nil _ _ _, OwnV.nil _ _ _, (fun g e => (by cases e)), (R0.below hb).lt⟩, X1⟩
 have key : ∀ i : Fin 10, dl0 i.val = jnO (fun _ _ => 0) 0 i.val := by decide
 exact key ⟨i, hi⟩
theorem jn_next (L : Nat → Nat → Int) (k : Nat) : ∀ i, i < 10 → putF (jnO L k) 0 4 (jnT L (k + 1)) i = jnO L (k + 1) i := fun i _ => by
 unfold putF jnO
 by_cases h : i < 4
 ·rw [if_pos (by omega), if_pos h]; rfl
 ·rw [if_neg (by omega), if_neg h, if_neg h]
set_option maxHeartbeats 16000000 in
theorem join_any (c : Addr) (h : Bool) (q : Option Addr) (pb po n cp : Nat) (L : Nat → Nat → Int) (w : World) (hc : w.cell? c = some (.bool h)) (hf : w.frozen? c = false) (hn : n ≤ 100) (hq : 0 < n → q = some ⟨pb, po, none⟩)
  (hL : ∀ i, i < n → ∀ j, j < 10 → w.cell? ⟨pb, po + i * 10 + j, none⟩ = some (.int .i64 (L i j))) :
  Calls Tryz.prog 15 #[.pointer (some c), .slice q n cp] w fun e w' => e = .returned (.agg (arrv 10 (jnR L n))) ∧ Upd c (jnH h L n) w w' := by
 have hcb := World.block_lt_of_cell? w c hc
 have GS := Lib.hid (fun (w1 : World) hb => jn_start c h L w w1 hc hb)
 have HC := Lib.hid hc
 have HF := Lib.hid hf
 have HL := Lib.hid hL
 have HQ := Lib.hid hq
 clear hc hf hL hq
 go_enter Tryz.func15, Tryz.ntmps15
 go_upto_region 1 with fail
 refine wp_region_lit ?_
 refine wpList_step (fun K hK => ?_)
 go_simp
 (refine (nothing_any _).mono ?_); rintro e w1 ⟨rfl, hb1⟩; have S0 := Lib.hid (GS.out w1 hb1); clear hb1
 (try dsimp only)
 (try simp only [Act.put, nA, nB, nC])
 refine hK _ _ ?_
 clear hK K
 refine wpList_act (v := ?_) (w' := ?_) rfl ?_ ?_
 rotate_left 2
 ·(go_simp; (try (first | with_reducible rfl | (constructor <;> with_reducible rfl))))
 (try simp only [Act.put, nA, nB, nC])
 refine wpList_done (w' := ?_) rfl ?_ ?_
 rotate_left
 ·(refine Eq.trans (run_store_row 40 (.tmp 5) (.tmp 10) (by rfl) (w1.heap.size) (by rfl) (by rfl) (S0.out.2) (idl.trans rfl)) ?_; with_reducible rfl)
 (try simp only [Act.put, nA, nB, nC])
 refine wpList_nil ?_
 have S1 := Lib.hid S0.out.1
 generalize (w1.alloc (.cells #[.int .i64 0, .int .i64 0, .int .i64 0, .int .i64 0, .int .i64 0, .int .i64 0, .int .i64 0, .int .i64 0, .int .i64 0, .int .i64 0] 40)).setRow w1.heap.size (arrv 10 dl0) = W1 at *
 obtain ⟨ob, hob⟩ : ∃ x, w1.heap.size = x := ⟨_, rfl⟩
 rw [hob] at S1 ⊢
 clear S0 GS hob
 go_wp2_with fail
 go_loopw [6, 7, 13] (fun u v i wr => ∃ (k : Nat) (a b : Value), k ≤ n ∧ i = .int .i64 k ∧ a = u ∧ b = v ∧ Hid (k = 0 → a = .slice none 0 0 ∧ b = .slice none 0 0) ∧ Hid (JnR c (h || orB (jnB L) k) ob (jnO L k) a k b k (jnV L) (jnP L) w wr)) (fun _ _ i _ => n - (intOf i).toNat)
 case atStart =>
  refine ⟨0, _, _, by omega, rfl, rfl, rfl, Lib.hid (fun _ => ⟨rfl, rfl⟩), ?_⟩
  rw [show (h || orB (jnB L) 0) = h from by simp [orB]]
  exact S1
 case round =>
  obtain ⟨k, a, b, hk, rfl, rfl, rfl, HZ, R⟩ := hrel
  clear S1
  by_cases hlt : k < n
  ·have d1 : decide (k < n) = true := by simpa using hlt
   have d2 : decide ((k : Int) < (n : Int)) = true := by simp; omega
   have k0 : (0 : Int) ≤ (k : Int) := Int.natCast_nonneg _
   have k1 : (k : Int) < (n : Int) := by omega
   obtain rfl : q = some ⟨pb, po, none⟩ := HQ.out (by omega)
   have LR := Lib.hid (fun j (hj : j < 10) => show wr.cell? ⟨pb, po + k * 10 + j, none⟩ = some (.int .i64 (L k j)) from by
    have hcell := HL.out k hlt j hj
    have hne : (⟨pb, po + k * 10 + j, none⟩ : Addr) ≠ c := fun e => by rw [e, HC.out] at hcell; cases hcell
    exact (R.out.upd.cell (World.block_lt_of_cell? _ _ hcell) (Ne.symm hne)).trans hcell)
   have FL : (h || orB (jnB L) k || qmH (L k) (jnT L k) || uniH (qmV (L k) (jnT L k))) = (h || orB (jnB L) (k + 1)) := by simp only [orB, jnB, Bool.or_assoc]
   have FO : arrv 4 (fun i => jnO L k i) = arrv 4 (jnT L k) := arrv_congr fun i hi => by unfold jnO; rw [if_pos hi]
   have FN : arrv 10 (putF (jnO L k) 0 4 (uniV (qmV (L k) (jnT L k)))) = arrv 10 (jnO L (k + 1)) := arrv_congr fun i hi => jn_next L k i hi
   have FV : arrv 3 (fun j => L k (4 + j)) = arrv 3 (jnV L k) := rfl
   have FP : arrv 3 (fun j => L k (7 + j)) = arrv 3 (jnP L k) := rfl
   obtain ⟨D, hD⟩ : ∃ x, L k = x := ⟨_, rfl⟩
   obtain ⟨T, hT⟩ : ∃ x, jnT L k = x := ⟨_, rfl⟩
   obtain ⟨O, hO⟩ : ∃ x, jnO L k = x := ⟨_, rfl⟩
   obtain ⟨O2, hO2⟩ : ∃ x, jnO L (k + 1) = x := ⟨_, rfl⟩
   obtain ⟨M, hM⟩ : ∃ x, qmV D T = x := ⟨_, rfl⟩
   obtain ⟨U, hU⟩ : ∃ x, uniV M = x := ⟨_, rfl⟩
   obtain ⟨H, hH⟩ : ∃ x, (h || orB (jnB L) k) = x := ⟨_, rfl⟩
   obtain ⟨LV, hLV⟩ : ∃ x, jnV L = x := ⟨_, rfl⟩
   obtain ⟨LP, hLP⟩ : ∃ x, jnP L = x := ⟨_, rfl⟩
   rw [hD] at LR
   rw [hH, hD, hT, hM] at FL
   rw [hO, hT] at FO
   rw [hO, hD, hT, hM, hU, hO2] at FN
   rw [hD, hLV] at FV
   rw [hD, hLP] at FP
   rw [hO, hH, hLV, hLP] at R
   have GL := Lib.hid FL
   have GO := Lib.hid FO
   have GN := Lib.hid FN
   have GV := Lib.hid FV
   have GP := Lib.hid FP
   have GM := Lib.hid hM
   have GU := Lib.hid hU
   have GE := Lib.hid (And.intro hO2 (And.intro hLV hLP))
   clear FL FO FN FV FP hD hT hO hO2 hM hU hH hLV hLP
   go_upto_region 5 with fail
   refine wp_region_lit ?_
   refine tv ?_
   (try simp only [Act.put, nA, nB, nC])
   refine wpList_val (v := ?_) rfl ?_ ?_
   rotate_left
   ·(refine Eq.trans (run_load_mid3 40 (.tmp 15) (by rfl) pb (po + k * 10) 10 (by rfl) D (fun j hj => LR.out j hj) _ Tryz.underlying40 rfl idl) ?_; with_reducible rfl)
   (try simp only [Act.put, nA, nB, nC])
   refine wpList_act (v := ?_) (w' := ?_) rfl ?_ ?_
   rotate_left 2
   ·(go_simp; (try (first | with_reducible rfl | (constructor <;> with_reducible rfl))))
   (try simp only [Act.put, nA, nB, nC])
   refine wpList_done (w' := ?_) rfl ?_ ?_
   rotate_left
   ·(refine Eq.trans (run_store_row 40 (.tmp 9) (.tmp 16) (by rfl) (wr.heap.size) (by rfl) (by rfl) (show Blk (wr.alloc (.cells #[.int .i64 0, .int .i64 0, .int .i64 0, .int .i64 0, .int .i64 0, .int .i64 0, .int .i64 0, .int .i64 0, .int .i64 0, .int .i64 0] 40)) wr.heap.size 40 10 (fun _ => 0) by rw [zdl]; exact Blk.new _ _ _ _) (idl.trans rfl)) ?_; with_reducible rfl)
   (try simp only [Act.put, nA, nB, nC])
   refine wpList_nil ?_
   have HS := Lib.hid (jd_new R.out D)
   generalize (wr.alloc (.cells #[.int .i64 0, .int .i64 0, .int .i64 0, .int .i64 0, .int .i64 0, .int .i64 0, .int .i64 0, .int .i64 0, .int .i64 0, .int .i64 0] 40)).setRow wr.heap.size (arrv 10 D) = W2 at *
   obtain ⟨db, hdb⟩ : ∃ x, wr.heap.size = x := ⟨_, rfl⟩
   rw [hdb] at HS ⊢
   clear hdb R LR
   go_upto_region 6 with fail
   refine wp_region_lit ?_
   refine tv ?_
   (try simp only [Act.put, nA, nB, nC])
   refine tv ?_
   (try simp only [Act.put, nA, nB, nC])
   refine tv ?_
   (try simp only [Act.put, nA, nB, nC])
   refine wpList_val (v := ?_) rfl ?_ ?_
   rotate_left
   ·(refine Eq.trans (run_load_sub 38 (.tmp 19) (by rfl) db 0 4 (by rfl) HS.out.d (by decide) _ Tryz.underlying38 rfl iqt) ?_; with_reducible rfl)
   (try simp only [Act.put, nA, nB, nC])
   refine tv ?_
   (try simp only [Act.put, nA, nB, nC])
   refine wpList_val (v := ?_) rfl ?_ ?_
   rotate_left
   ·(refine Eq.trans (run_load_sub 38 (.tmp 21) (by rfl) ob 0 4 (by rfl) HS.out.j.o (by decide) _ Tryz.underlying38 rfl iqt) ?_; with_reducible rfl)
   (try simp only [Act.put, nA, nB, nC])
   refine wpList_step (fun K hK => ?_)
   go_simp
   (rw [GO.out]); (refine (qmul_any c H D T _ (HS.out.j.upd.cellc HC.out) ((HS.out.j.upd.frozen hcb).trans HF.out)).mono ?_); (rw [GM.out]); rintro e w3 ⟨rfl, hu⟩; have HU := Lib.hid (HS.out.upd' hcb hu); clear HS hu; have HS := HU; clear HU
   (try dsimp only)
   (try simp only [Act.put, nA, nB, nC])
   refine hK _ _ ?_
   clear hK K
   refine wpList_step (fun K hK => ?_)
   go_simp
   (refine (qunit_any c _ M _ (HS.out.j.upd.cellc HC.out) ((HS.out.j.upd.frozen hcb).trans HF.out)).mono ?_); (rw [GU.out]); rintro e w4 ⟨rfl, hu⟩; have HU := Lib.hid (HS.out.upd' hcb hu); clear HS hu; have HS := HU; clear HU
   (try dsimp only)
   (try simp only [Act.put, nA, nB, nC])
   refine hK _ _ ?_
   clear hK K
   refine tv ?_
   (try simp only [Act.put, nA, nB, nC])
   refine wpList_done (w' := ?_) rfl ?_ ?_
   rotate_left
   ·(refine Eq.trans (run_store_sub 38 (.tmp 25) (.tmp 24) (by rfl) ob 0 (by rfl) (by rfl) HS.out.j.o (by decide) iqt) ?_; with_reducible rfl)
   (try simp only [Act.put, nA, nB, nC])
   refine wpList_nil ?_
   rw [GL.out] at HS
   rw [GN.out]
   have H5 := Lib.hid (HS.out.setO O2)
   generalize w4.setRow ob (arrv 10 O2) = W5 at *
   clear HS
   go_upto_region 7 with fail
   have HS := Lib.hid H5.out.drew
   clear H5
   refine wp_region_M (fun w' => Blk w' db 40 10 D) 11 (by kernel_rfl) ?_ (fun hHeld => ?_)
   ·exact HS.out.d
   refine tk 0 ?_
   (try simp only [Act.put, nA, nB, nC])
   refine tk 1 ?_
   (try simp only [Act.put, nA, nB, nC])
   refine tl 2 (v := ?_) ?_ ?_
   rotate_left
   ·(intro wx hSw; refine Eq.trans (run_load_sub 28 (.tmp 27) (by rfl) db 4 3 (by rfl) hSw (by decide) _ Tryz.underlying28 rfl iv3) ?_; with_reducible rfl)
   (try simp only [Act.put, nA, nB, nC])
   refine tk 5 ?_
   (try simp only [Act.put, nA, nB, nC])
   refine tk 6 ?_
   (try simp only [Act.put, nA, nB, nC])
   refine tl 7 (v := ?_) ?_ ?_
   rotate_left
   ·(intro wx hSw; refine Eq.trans (run_load_sub 28 (.tmp 32) (by rfl) db 7 3 (by rfl) hSw (by decide) _ Tryz.underlying28 rfl iv3) ?_; with_reducible rfl)
   (try simp only [Act.put, nA, nB, nC])
   refine wpAnyM_twoS 3 8 rfl rfl (by kernel_rfl) (fun K hK => ?_) (fun K hK => ?_)
   ·refine if_pos_of (by rfl) (wp_bslv1 (.tmp 28) rfl rfl ?_); (rw [GV.out]); have HT := Lib.hid (jd_x HS.out (LV k)); clear HS; have HS := Lib.hid HT.out.1; have HX := Lib.hid HT.out.2; clear HT; (try (have HY2 := Lib.hid (HY.out.down ((Below.refl _ _).alloc (Nat.le_refl _) (.cells (arrv 3 (LV k)) 28))); clear HY; have HY := HY2; clear HY2))
    clear hHeld
    refine hK.out _ _ ?_ (fun hHeld => ?_)
    ·exact HS.out.d
    clear hK K
    (try simp only [Act.put, nA, nB, nC])
    refine wpAnyM_twoS 4 8 rfl rfl (by kernel_rfl) (fun K hK => ?_) (fun K hK => ?_)
    ·refine step_appV rfl (.tmp 26) (.tmp 29) rfl (ob + 1) rfl HS.out.j.va _ 1 rfl HX.out.1 (by omega) (by have hz := HS.out.j.o.lt; first | omega | (simp at hz ⊢; omega)) _ rfl ?_; intro g1 cp1 w6 ho hg hat hlt6; have HU := Lib.hid (jd_appA HS.out hg ho hat rfl); (try (have HY2 := Lib.hid (HY.out.grownA (n := k + 1) (cap := cp1) hg hat rfl); clear HY; have HY := HY2; clear HY2)); clear HS HX hg ho hat hlt6; have HS := HU; clear HU
     clear hHeld
     refine hK.out _ _ ?_ (fun hHeld => ?_)
     ·exact HS.out.d
     clear hK K
     (try simp only [Act.put, nA, nB, nC])
     refine wpAnyM_oneS 8 rfl (by kernel_rfl) (fun K hK => ?_)
     refine if_pos_of (by rfl) (wp_bslv1 (.tmp 33) rfl rfl ?_); (rw [GP.out]); have HT := Lib.hid (jd_x HS.out (LP k)); clear HS; have HS := Lib.hid HT.out.1; have HY := Lib.hid HT.out.2; clear HT; (try (have HX2 := Lib.hid (HX.out.down ((Below.refl _ _).alloc (Nat.le_refl _) (.cells (arrv 3 (LP k)) 28))); clear HX; have HX := HX2; clear HX2))
     clear hHeld
     refine hK.out _ _ ?_ (fun hHeld => ?_)
     ·exact HS.out.d
     clear hK K
     (try simp only [Act.put, nA, nB, nC])
     refine wpAnyM_oneS 9 rfl (by kernel_rfl) (fun K hK => ?_)
     refine step_appV rfl (.tmp 31) (.tmp 34) rfl (ob + 1) rfl HS.out.j.vb _ 1 rfl HY.out.1 (by omega) (by have hz := HS.out.j.o.lt; first | omega | (simp at hz ⊢; omega)) _ rfl ?_; intro g2 cp2 w7 ho hg hat hlt7; have HU := Lib.hid (jd_appB HS.out hg ho hat rfl); clear HS HY hg ho hat hlt7; have HS := HU; clear HU
     clear hHeld
     refine hK.out _ _ ?_ (fun hHeld => ?_)
     ·exact HS.out.d
     clear hK K
     (try simp only [Act.put, nA, nB, nC])
     refine tk 10 ?_
     (try simp only [Act.put, nA, nB, nC])
     refine wpAnyM_one 11 rfl (by kernel_rfl) (fun K hK => ?_)
     go_simp
     refine hK.out _ _ (.inl (by kernel_rfl)) (fun _ => ?_)
     clear hK K
     (try simp only [Act.put, nA, nB, nC])
     refine wpAnyM_done (by kernel_rfl) ?_ _
     (have R9 := Lib.hid HS.out.j; rw [← GE.out.1, ← GE.out.2.1, ← GE.out.2.2] at R9; clear HS; go_wp2_with fail; go_roundw; (case rel => exact ⟨k + 1, _, _, by omega, by go_num, rfl, rfl, Lib.hid (fun e => by omega), R9⟩); (case measure => simp [intOf]; omega))
    ·refine if_pos_of (by rfl) (wp_bslv1 (.tmp 33) rfl rfl ?_); (rw [GP.out]); have HT := Lib.hid (jd_x HS.out (LP k)); clear HS; have HS := Lib.hid HT.out.1; have HY := Lib.hid HT.out.2; clear HT; (try (have HX2 := Lib.hid (HX.out.down ((Below.refl _ _).alloc (Nat.le_refl _) (.cells (arrv 3 (LP k)) 28))); clear HX; have HX := HX2; clear HX2))
     clear hHeld
     refine hK.out _ _ ?_ (fun hHeld => ?_)
     ·exact HS.out.d
     clear hK K
     (try simp only [Act.put, nA, nB, nC])
     refine wpAnyM_oneS 4 rfl (by kernel_rfl) (fun K hK => ?_)
     refine step_appV rfl (.tmp 26) (.tmp 29) rfl (ob + 1) rfl HS.out.j.va _ 1 rfl HX.out.1 (by omega) (by have hz := HS.out.j.o.lt; first | omega | (simp at hz ⊢; omega)) _ rfl ?_; intro g1 cp1 w6 ho hg hat hlt6; have HU := Lib.hid (jd_appA HS.out hg ho hat rfl); (try (have HY2 := Lib.hid (HY.out.grownA (n := k + 1) (cap := cp1) hg hat rfl); clear HY; have HY := HY2; clear HY2)); clear HS HX hg ho hat hlt6; have HS := HU; clear HU
     clear hHeld
     refine hK.out _ _ ?_ (fun hHeld => ?_)
     ·exact HS.out.d
     clear hK K
     (try simp only [Act.put, nA, nB, nC])
     refine wpAnyM_oneS 9 rfl (by kernel_rfl) (fun K hK => ?_)
     refine step_appV rfl (.tmp 31) (.tmp 34) rfl (ob + 1) rfl HS.out.j.vb _ 1 rfl HY.out.1 (by omega) (by have hz := HS.out.j.o.lt; first | omega | (simp at hz ⊢; omega)) _ rfl ?_; intro g2 cp2 w7 ho hg hat hlt7; have HU := Lib.hid (jd_appB HS.out hg ho hat rfl); clear HS HY hg ho hat hlt7; have HS := HU; clear HU
     clear hHeld
     refine hK.out _ _ ?_ (fun hHeld => ?_)
     ·exact HS.out.d
     clear hK K
     (try simp only [Act.put, nA, nB, nC])
     refine tk 10 ?_
     (try simp only [Act.put, nA, nB, nC])
     refine wpAnyM_one 11 rfl (by kernel_rfl) (fun K hK => ?_)
     go_simp
     refine hK.out _ _ (.inl (by kernel_rfl)) (fun _ => ?_)
     clear hK K
     (try simp only [Act.put, nA, nB, nC])
     refine wpAnyM_done (by kernel_rfl) ?_ _
     (have R9 := Lib.hid HS.out.j; rw [← GE.out.1, ← GE.out.2.1, ← GE.out.2.2] at R9; clear HS; go_wp2_with fail; go_roundw; (case rel => exact ⟨k + 1, _, _, by omega, by go_num, rfl, rfl, Lib.hid (fun e => by omega), R9⟩); (case measure => simp [intOf]; omega))
   ·refine if_pos_of (by rfl) (wp_bslv1 (.tmp 33) rfl rfl ?_); (rw [GP.out]); have HT := Lib.hid (jd_x HS.out (LP k)); clear HS; have HS := Lib.hid HT.out.1; have HY := Lib.hid HT.out.2; clear HT; (try (have HX2 := Lib.hid (HX.out.down ((Below.refl _ _).alloc (Nat.le_refl _) (.cells (arrv 3 (LP k)) 28))); clear HX; have HX := HX2; clear HX2))
    clear hHeld
    refine hK.out _ _ ?_ (fun hHeld => ?_)
    ·exact HS.out.d
    clear hK K
    (try simp only [Act.put, nA, nB, nC])
    refine wpAnyM_oneS 3 rfl (by kernel_rfl) (fun K hK => ?_)
    refine if_pos_of (by rfl) (wp_bslv1 (.tmp 28) rfl rfl ?_); (rw [GV.out]); have HT := Lib.hid (jd_x HS.out (LV k)); clear HS; have HS := Lib.hid HT.out.1; have HX := Lib.hid HT.out.2; clear HT; (try (have HY2 := Lib.hid (HY.out.down ((Below.refl _ _).alloc (Nat.le_refl _) (.cells (arrv 3 (LV k)) 28))); clear HY; have HY := HY2; clear HY2))
    clear hHeld
    refine hK.out _ _ ?_ (fun hHeld => ?_)
    ·exact HS.out.d
    clear hK K
    (try simp only [Act.put, nA, nB, nC])
    refine wpAnyM_oneS 4 rfl (by kernel_rfl) (fun K hK => ?_)
    refine step_appV rfl (.tmp 26) (.tmp 29) rfl (ob + 1) rfl HS.out.j.va _ 1 rfl HX.out.1 (by omega) (by have hz := HS.out.j.o.lt; first | omega | (simp at hz ⊢; omega)) _ rfl ?_; intro g1 cp1 w6 ho hg hat hlt6; have HU := Lib.hid (jd_appA HS.out hg ho hat rfl); (try (have HY2 := Lib.hid (HY.out.grownA (n := k + 1) (cap := cp1) hg hat rfl); clear HY; have HY := HY2; clear HY2)); clear HS HX hg ho hat hlt6; have HS := HU; clear HU
    clear hHeld
    refine hK.out _ _ ?_ (fun hHeld => ?_)
    ·exact HS.out.d
    clear hK K
    (try simp only [Act.put, nA, nB, nC])
    refine wpAnyM_oneS 9 rfl (by kernel_rfl) (fun K hK => ?_)
    refine step_appV rfl (.tmp 31) (.tmp 34) rfl (ob + 1) rfl HS.out.j.vb _ 1 rfl HY.out.1 (by omega) (by have hz := HS.out.j.o.lt; first | omega | (simp at hz ⊢; omega)) _ rfl ?_; intro g2 cp2 w7 ho hg hat hlt7; have HU := Lib.hid (jd_appB HS.out hg ho hat rfl); clear HS HY hg ho hat hlt7; have HS := HU; clear HU
    clear hHeld
    refine hK.out _ _ ?_ (fun hHeld => ?_)
    ·exact HS.out.d
    clear hK K
    (try simp only [Act.put, nA, nB, nC])
    refine tk 10 ?_
    (try simp only [Act.put, nA, nB, nC])
    refine wpAnyM_one 11 rfl (by kernel_rfl) (fun K hK => ?_)
    go_simp
    refine hK.out _ _ (.inl (by kernel_rfl)) (fun _ => ?_)
    clear hK K
    (try simp only [Act.put, nA, nB, nC])
    refine wpAnyM_done (by kernel_rfl) ?_ _
    (have R9 := Lib.hid HS.out.j; rw [← GE.out.1, ← GE.out.2.1, ← GE.out.2.2] at R9; clear HS; go_wp2_with fail; go_roundw; (case rel => exact ⟨k + 1, _, _, by omega, by go_num, rfl, rfl, Lib.hid (fun e => by omega), R9⟩); (case measure => simp [intOf]; omega))
  ·obtain rfl : k = n := by omega
   have d1 : decide (k < k) = false := by simp
   have d2 : decide ((k : Int) < (k : Int)) = false := by simp
   have HE := Lib.hid (show jnH h L k = (h || orB (jnB L) k || orB (vaH (jnV L) k) 3 || orB (vaH (jnP L) k) 3) ∧ jnR L k = putF (putF (jnO L k) 4 3 (vaV (jnV L) k)) 7 3 (vaV (jnP L) k) from ⟨rfl, rfl⟩)
   obtain ⟨O, hO⟩ : ∃ x, jnO L k = x := ⟨_, rfl⟩
   obtain ⟨LV, hLV⟩ : ∃ x, jnV L = x := ⟨_, rfl⟩
   obtain ⟨LP, hLP⟩ : ∃ x, jnP L = x := ⟨_, rfl⟩
   obtain ⟨H, hH⟩ : ∃ x, (h || orB (jnB L) k) = x := ⟨_, rfl⟩
   rw [hO, hLV, hLP, hH] at R
   rw [hO, hLV, hLP, hH] at HE
   clear hO hLV hLP hH
   obtain ⟨A, hA⟩ : ∃ x, vaV LV k = x := ⟨_, rfl⟩
   obtain ⟨B, hB⟩ : ∃ x, vaV LP k = x := ⟨_, rfl⟩
   rw [hA, hB] at HE
   have GA := Lib.hid hA
   have GB := Lib.hid hB
   clear hA hB
   have HS := R
   clear R
   go_upto_region 9 with fail
   refine wp_region_lit ?_
   refine tv ?_
   (try simp only [Act.put, nA, nB, nC])
   refine tv ?_
   (try simp only [Act.put, nA, nB, nC])
   refine wpList_step (fun K hK => ?_)
   go_simp
   (refine (vaddO_any c H _ HS.out.va (HS.out.upd.cellc HC.out) ((HS.out.upd.frozen hcb).trans HF.out) (by omega) (fun e => (HZ.out e).1)).mono ?_); (rw [GA.out]); rintro e w3 ⟨rfl, hu⟩; have HU := Lib.hid (HS.out.upd' hcb hu); clear HS hu; have HS := HU; clear HU
   (try dsimp only)
   (try simp only [Act.put, nA, nB, nC])
   refine hK _ _ ?_
   clear hK K
   refine tv ?_
   (try simp only [Act.put, nA, nB, nC])
   refine tv ?_
   (try simp only [Act.put, nA, nB, nC])
   refine wpList_step (fun K hK => ?_)
   go_simp
   (refine (vaddO_any c _ _ HS.out.vb (HS.out.upd.cellc HC.out) ((HS.out.upd.frozen hcb).trans HF.out) (by omega) (fun e => (HZ.out e).2)).mono ?_); (rw [GB.out]); rintro e w4 ⟨rfl, hu⟩; have HU := Lib.hid (HS.out.upd' hcb hu); clear HS hu; have HS := HU; clear HU
   (try dsimp only)
   (try simp only [Act.put, nA, nB, nC])
   refine hK _ _ ?_
   clear hK K
   refine tv ?_
   (try simp only [Act.put, nA, nB, nC])
   refine wpList_done (w' := ?_) rfl ?_ ?_
   rotate_left
   ·(refine Eq.trans (run_store_sub 28 (.tmp 43) (.tmp 39) (by rfl) ob 4 (by rfl) (by rfl) HS.out.o (by decide) iv3) ?_; with_reducible rfl)
   (try simp only [Act.put, nA, nB, nC])
   have HV := Lib.hid (HS.out.setO (putF O 4 3 A)); generalize w4.setRow ob (arrv 10 (putF O 4 3 A)) = W5 at *; clear HS; (refine wpList_val (v := ?_) rfl ?_ ?_); rotate_left; (focus (go_simp; (try with_reducible rfl))); (try simp only [Act.put, nA, nB, nC])
   refine wpList_done (w' := ?_) rfl ?_ ?_
   rotate_left
   ·(refine Eq.trans (run_store_sub 28 (.tmp 44) (.tmp 42) (by rfl) ob 7 (by rfl) (by rfl) HV.out.o (by decide) iv3) ?_; with_reducible rfl)
   (try simp only [Act.put, nA, nB, nC])
   refine wpList_nil ?_
   have HW := Lib.hid (HV.out.setO (putF (putF O 4 3 A) 7 3 B))
   rw [← HE.out.2] at HW ⊢
   generalize W5.setRow ob (arrv 10 (jnR L k)) = W6 at *
   clear HV
   obtain ⟨RR, hRR⟩ : ∃ x, jnR L k = x := ⟨_, rfl⟩
   rw [hRR] at HW
   have GR := Lib.hid hRR
   clear hRR
   have P0 := HW.out.o
   go_upto_region 10 with fail
   refine wp_region_lit ?_
   refine wpList_val (v := ?_) rfl ?_ ?_
   rotate_left
   ·(refine Eq.trans (run_load_row 40 (.tmp 5) (by rfl) (ob) (by rfl) _ _ _ _ (P0) Tryz.underlying40 rfl (idl.trans (by rw [arrv_size]))) ?_; with_reducible rfl)
   (try simp only [Act.put, nA, nB, nC])
   refine wpList_done (w' := ?_) rfl ?_ ?_
   rotate_left
   ·(refine Eq.trans (run_store_row 40 (.tmp 4) (.tmp 45) (by rfl) (w.heap.size) (by rfl) (by rfl) (HW.out.r) (idl.trans rfl)) ?_; with_reducible rfl)
   (try simp only [Act.put, nA, nB, nC])
   refine wpList_nil ?_
   have D1 := Lib.hid (HW.out.r.setRow RR)
   have DU := Lib.hid (HW.out.upd.then' (below_row (Below.refl _ _) (Nat.le_refl _) (arrv 10 RR)))
   generalize W6.setRow w.heap.size (arrv 10 RR) = W7 at *
   clear HW P0
   go_wp2_with fail
   refine bodyPost_ret (results_cell_row Tryz.results15 _ _ w.heap.size 40 (arrv 10 RR) (0, 0) _ rfl D1.out Tryz.underlying40 rfl (idl.trans (by rw [arrv_size]))) rfl ⟨by rw [GR.out], ?_⟩
   rw [HE.out.1]
   exact DU.out
end Go.Proofs.YtgfklheepkgedaaGreat
/- '==' of a jump with itself; four jumps, built as a slice. -/
namespace Go.Proofs.YtgfklheepkgedaaGreat
open Go.RowKit
open Go
set_option maxRecDepth 100000
theorem run_equalIn_dl (d : Nat) (w : World) (f : Nat → Int) : (Op.equalIn (d + 3) 40 (.agg (arrv 10 f)) (.agg (arrv 10 f))).run Tryz.prog w = .ok true w := by
 have hf := fieldsOf_of Tryz.underlying40
 rw [show d + 3 = (d + 2) + 1 from rfl, run_equalIn_struct w (d + 2) _ _ _ (by rw [hf]; exact Tryz.underlying40) (by kernel_rfl), hf]
 have hi22 : ∃ i, Tryz.prog.info? 38 = some i ∧ i.size = 4 := by
  have h : (Tryz.prog.info? 38).map (·.size) = some 4 := by kernel_rfl
  cases e : Tryz.prog.info? 38 with
  | none => rw [e] at h; cases h
  | some i => rw [e] at h; exact ⟨i, rfl, by simpa using h⟩
 have hi23 : ∃ i, Tryz.prog.info? 28 = some i ∧ i.size = 3 := by
  have h : (Tryz.prog.info? 28).map (·.size) = some 3 := by kernel_rfl
  cases e : Tryz.prog.info? 28 with
  | none => rw [e] at h; cases h
  | some i => rw [e] at h; exact ⟨i, rfl, by simpa using h⟩
 have hi2 : ∃ i, Tryz.prog.info? 2 = some i ∧ i.size = 1 := by
  have h : (Tryz.prog.info? 2).map (·.size) = some 1 := by kernel_rfl
  cases e : Tryz.prog.info? 2 with
  | none => rw [e] at h; cases h
  | some i => rw [e] at h; exact ⟨i, rfl, by simpa using h⟩
 obtain ⟨i22, h22, s22⟩ := hi22
 obtain ⟨i23, h23, s23⟩ := hi23
 obtain ⟨i2, h2, s2⟩ := hi2
 have hc : Tryz.prog.cellsOf 2 = 1 := by simp [Program.cellsOf, h2, s2]
 have p0 := run_part_vec (w := w) (m := 10) Tryz.underlying38 h22 s22 0 f (by omega)
 have p1 := run_part_vec (w := w) (m := 10) Tryz.underlying28 h23 s23 4 f (by omega)
 have p2 := run_part_vec (w := w) (m := 10) Tryz.underlying28 h23 s23 7 f (by omega)
 have q0 := fun g => (run_equalIn_vec (w := w) d Tryz.underlying38 Tryz.underlying2 hc h2 g g).trans (by rw [eqB_iff.2 fun _ _ => rfl])
 have q1 := fun g => (run_equalIn_vec (w := w) d Tryz.underlying28 Tryz.underlying2 hc h2 g g).trans (by rw [eqB_iff.2 fun _ _ => rfl])
 have z : (Op.eqFields (d + 2) (arrv 10 f) (arrv 10 f) []).run Tryz.prog w = .ok true w := by simp [Op.eqFields]
 have e2 := run_eqFields_cons (f := ⟨"Pos", 28, 7, false, "", "", 56⟩) (by decide) p2 p2 (q1 _) z
 have e1 := run_eqFields_cons (f := ⟨"Vel", 28, 4, false, "", "", 32⟩) (by decide) p1 p1 (q1 _) e2
 have e0 := run_eqFields_cons (f := ⟨"Turn", 38, 0, false, "", "", 0⟩) (by decide) p0 p0 (q0 _) e1
 exact e0
theorem run_equal_dl (w : World) (f : Nat → Int) : (Op.equal 40 (.agg (arrv 10 f)) (.agg (arrv 10 f))).run Tryz.prog w = .ok true w := run_equalIn_dl 9997 w f
theorem run_op_eqlDl {o : Oper} {ev : Operand → Value} {w : World} (x y : Operand) (ho : o.op = .binOp .eql 40 x y 40) {f : Nat → Int} (hx : ev x = .agg (arrv 10 f)) (hy : ev y = .agg (arrv 10 f)) :
  (execOp ev o).run Tryz.prog w = .ok (.value (.bool true)) w := by
 have e := run_equal_dl w f
 have hG : Tryz.prog.eqGuardType Tryz.prog.depth 40 = false := by kernel_rfl
 unfold execOp
 simp only [ho, hx, hy, eqGuard, binOp, Sem.run_bind, Sem.run_pure, Result.andThen_ok]
 simp [hG, e, go_sem]
/-- Four jumps, one behind the other. -/
def side10 (L : Nat → Nat → Int) : Nat → Int := fun i => L (i / 10) (i % 10)
def d4L (A B C D : Nat → Int) : Nat → Nat → Int | 0 => A | 1 => B | 2 => C | _ => D
theorem filld4 (A B C D : Nat → Int) (Z : Array Value) (hZ : Z = arrv 40 (fun _ => 0)) : Instr.fill (fun i => some (i * 10, 10)) Z [(0, .agg (arrv 10 A)), (1, .agg (arrv 10 B)), (2, .agg (arrv 10 C)), (3, .agg (arrv 10 D))] = some (arrv 40 (side10 (d4L A B C D))) := by
 subst hZ; kernel_rfl
theorem zrange40 (Z : Array Value) (hZ : Z = arrv 10 (fun _ => 0)) : (Array.range (4 * 10)).map (fun i => Z[i % Z.size]!) = arrv 40 (fun _ => 0) := by
 subst hZ; kernel_rfl
theorem run_bsld4 (A B C D : Nat → Int) (w : World) : (Instr.buildSlice 57 4 #[(0, .agg (arrv 10 A)), (1, .agg (arrv 10 B)), (2, .agg (arrv 10 C)), (3, .agg (arrv 10 D))]).run Tryz.prog w = .ok (.slice (some ⟨w.heap.size, 0, none⟩) 4 4) (w.alloc (.cells (arrv 40 (side10 (d4L A B C D))) 40)) := by
 have hz : (zeroValue 40).run Tryz.prog w = .ok (.agg (arrv 10 (fun _ => 0))) w := by kernel_rfl
 have hs : (sizeOf 40).run Tryz.prog w = .ok 10 w := by kernel_rfl
 unfold Instr.buildSlice
 simp only [Sem.run_bind, run_underlying Tryz.underlying57, Result.andThen_ok, hs]
 rw [if_neg (by decide), if_neg (by decide)]
 have hf : Instr.fill (fun i => some (i * 10, 10)) (Array.map (fun x => (Value.agg (arrv 10 (fun _ => 0))).cells[x % (Value.agg (arrv 10 (fun _ => 0))).cells.size]!) (Array.range (4 * 10))) [(0, Value.agg (arrv 10 A)), (1, Value.agg (arrv 10 B)), (2, Value.agg (arrv 10 C)), (3, Value.agg (arrv 10 D))] = some (arrv 40 (side10 (d4L A B C D))) :=
  filld4 A B C D _ (zrange40 (arrv 10 (fun _ => 0)) rfl)
 simp only [Sem.run_bind, hz, Result.andThen_ok, Sem.run_pure, hf]
 simp [newRow, newObj, go_sem]
 rfl
theorem wpList_bsld4 {w : World} {ops : Array Oper} {rest : List Oper} {o : Oper} {a : Act} {Q : Exit → Act → World → Prop} {A B C D : Nat → Int} (hgd : o.guard = none) (x y z u : Operand) (ho : o.op = .buildSlice 57 4 #[(0, x), (1, y), (2, z), (3, u)])
  (hx : a.eval x = .agg (arrv 10 A)) (hy : a.eval y = .agg (arrv 10 B)) (hz : a.eval z = .agg (arrv 10 C)) (hu : a.eval u = .agg (arrv 10 D))
  (h : wpList Tryz.prog ops Q rest (a.put o.dst (.slice (some ⟨w.heap.size, 0, none⟩) 4 4)) (w.alloc (.cells (arrv 40 (side10 (d4L A B C D))) 40))) : wpList Tryz.prog ops Q (o :: rest) a w :=
 wpList_plain hgd fun K hK => by
  unfold Oper.wp execOp
  simp only [ho, Sem.run_bind, List.map_toArray, List.map_cons, List.map_nil, hx, hy, hz, hu, run_bsld4 A B C D w, Result.andThen_ok]
  exact hK _ _ h
end Go.Proofs.YtgfklheepkgedaaGreat
/- Begun anew: the matrix and the variances of a run of states, as plain laws have them. -/
namespace Go.Proofs.YtgfklheepkgedaaGreat
/-- The states of a run. -/
def rtR (fr : Int) (n : Nat) (i : Nat) : Bool := decide (fr ≤ i ∧ (i : Int) < fr + n ∧ i < 24)
theorem rtF_eq (fr : Int) : ∀ n, rtF fr n = rsF (rtR fr n)
 | 0 => by
  funext x
  unfold rtF oneF rsF
  have : rtR fr 0 (x / 24) = false := by unfold rtR; simp; omega
  rw [this]
  split <;> split <;> first | rfl | (simp_all; done) | omega
 | n + 1 => by
  funext x
  simp only [rtF]
  rw [rtF_eq fr n]
  by_cases hI : rtI fr n = true
  ·have hb : 0 ≤ fr + n ∧ fr + n < 24 := by unfold rtI at hI; simpa using hI
   rw [if_pos hI]
   obtain ⟨i, hi⟩ : ∃ i : Nat, fr + n = (i : Int) := ⟨(fr + n).toNat, by omega⟩
   rw [hi, Int.toNat_natCast]
   have hi24 : i < 24 := by omega
   unfold Go.Proofs.YtgfklheepkgedaaGreat.upd rsF
   by_cases hx : x = i * 24 + i
   ·subst hx
    rw [if_pos rfl, if_neg]
    intro h
    have h2 := h.2
    rw [show (i * 24 + i) / 24 = i by omega] at h2
    unfold rtR at h2
    simp at h2
    omega
   ·rw [if_neg hx]
    have hR : x / 24 = x % 24 → rtR fr (n + 1) (x / 24) = rtR fr n (x / 24) := by
     intro hd
     have hne : x / 24 ≠ i := by omega
     unfold rtR
     rw [Bool.eq_iff_iff]
     simp
     omega
    by_cases hd : x / 24 = x % 24
    ·rw [hR hd]
    ·rw [if_neg (fun h => hd h.1), if_neg (fun h => hd h.1)]
  ·have hb : ¬ (0 ≤ fr + n ∧ fr + n < 24) := by unfold rtI at hI; simpa using hI
   rw [if_neg hI]
   have hR : ∀ i, rtR fr (n + 1) i = rtR fr n i := by
    intro i
    unfold rtR
    rw [Bool.eq_iff_iff]
    simp
    omega
   unfold rsF
   rw [hR]
theorem rtQ_at (fr : Int) (L : Nat → Int) : ∀ n i, i < 24 → rtQ fr L n i = if rtR fr n i = true then varV (L ((i : Int) - fr).toNat) else 0
 | 0, i, hi => by
  have : rtR fr 0 i = false := by unfold rtR; simp; omega
  rw [this]; rfl
 | n + 1, i, hi => by
  simp only [rtQ]
  by_cases hI : rtI fr n = true
  ·have hb : 0 ≤ fr + n ∧ fr + n < 24 := by unfold rtI at hI; simpa using hI
   rw [if_pos hI]
   unfold Go.Proofs.YtgfklheepkgedaaGreat.upd
   by_cases hx : i = (fr + (n : Int)).toNat
   ·rw [if_pos hx, if_pos (by unfold rtR; simp; omega), show ((i : Int) - fr).toNat = n by omega]
   ·rw [if_neg hx, rtQ_at fr L n i hi]
    have : rtR fr (n + 1) i = rtR fr n i := by unfold rtR; rw [Bool.eq_iff_iff]; simp; omega
    rw [this]
  ·have hb : ¬ (0 ≤ fr + n ∧ fr + n < 24) := by unfold rtI at hI; simpa using hI
   rw [if_neg hI, rtQ_at fr L n i hi]
   have : rtR fr (n + 1) i = rtR fr n i := by unfold rtR; rw [Bool.eq_iff_iff]; simp; omega
   rw [this]
end Go.Proofs.YtgfklheepkgedaaGreat
/- A covariance without numbers in U: a run of states begun anew (plain law). No program beyond the numbers' names. -/
namespace Go.Proofs.YtgfklheepkgedaaGreat
/-- A run of states of a covariance without numbers in U, begun anew: exact, and no flag. -/
theorem reset_diag {f L : Nat → Int} (hf : DiagF f) {fr n : Nat} (hn : fr + n ≤ 24) (hL : ∀ k, k < n → 1 ≤ L k ∧ L k ≤ 72057594037927936) :
  DiagF (stepF f (rtF fr n) (rtQ fr L n)) ∧ (∀ i, i < 24 → stepF f (rtF fr n) (rtQ fr L n) (276 + i) = if fr ≤ i ∧ i < fr + n then L (i - fr) else f (276 + i)) ∧ stepH f (rtF fr n) (rtQ fr L n) = false ∧ orB (rtB fr L) n = false := by
 have hR : ∀ i, i < 24 → rtR fr n i = decide (fr ≤ i ∧ i < fr + n) := fun i _ => by unfold rtR; rw [Bool.eq_iff_iff]; simp; omega
 have hQ : ∀ i, i < 24 → rtQ fr L n i = if fr ≤ i ∧ i < fr + n then L (i - fr) else 0 := fun i hi => by
  rw [rtQ_at fr _ n i hi, hR i hi]
  by_cases h : fr ≤ i ∧ i < fr + n
  ·have b := hL (i - fr) (by omega)
   rw [if_pos (by simp [h]), if_pos h, show ((i : Int) - (fr : Int)).toNat = i - fr by omega]
   exact (varV_id b.1 b.2).1
  ·rw [if_neg (by simp; omega), if_neg h]
 have hE : ∀ i, i < 24 → dgE (rtR fr n) (fun i => f (276 + i)) i = if fr ≤ i ∧ i < fr + n then 0 else f (276 + i) := fun i hi => by
  unfold dgE; rw [hR i hi]
  by_cases h : fr ≤ i ∧ i < fr + n
  ·rw [if_pos (by simp [h]), if_pos h]
  ·rw [if_neg (by simp; omega), if_neg h]
 have hP : RsP (rtR fr n) f := ⟨fun i j h1 h2 => by rw [hf.1 _ (pl_lt h1 h2)]; omega, fun i j h1 h2 _ => hf.1 _ (pl_lt h1 h2), hf.2⟩
 have hS : ∀ i, i < 24 → dgE (rtR fr n) (fun i => f (276 + i)) i + rtQ fr L n i = if fr ≤ i ∧ i < fr + n then L (i - fr) else f (276 + i) := fun i hi => by
  rw [hE i hi, hQ i hi]
  by_cases h : fr ≤ i ∧ i < fr + n
  ·rw [if_pos h, if_pos h, if_pos h, Int.zero_add]
  ·rw [if_neg h, if_neg h, if_neg h, Int.add_zero]
 have hB : ∀ i, i < 24 → 1 ≤ (if fr ≤ i ∧ i < fr + n then L (i - fr) else f (276 + i)) ∧ (if fr ≤ i ∧ i < fr + n then L (i - fr) else f (276 + i)) ≤ 72057594037927936 := fun i hi => by
  split
  ·exact hL _ (by omega)
  ·exact hf.2 i hi
 obtain ⟨h1, h2⟩ := step_reset hP (q := rtQ fr L n) (fun i hi => by
  rw [hQ i hi]
  split
  ·have := hL (i - fr) (by omega); omega
  ·omega) (fun i hi => by rw [hS i hi]; exact hB i hi)
 rw [rtF_eq]
 refine ⟨⟨fun x hx => by rw [h1 x (by omega), if_pos hx], fun i hi => ?_⟩, fun i hi => ?_, h2, orB_noB fun k hk => ?_⟩
 ·rw [h1 _ (by omega), if_neg (by omega), show 276 + i - 276 = i by omega, hS i hi]; exact hB i hi
 ·rw [h1 _ (by omega), if_neg (by omega), show 276 + i - 276 = i by omega, hS i hi]
 ·have b := hL k hk
  unfold rtB
  split
  ·exact (varV_id b.1 b.2).2
  ·rfl
end Go.Proofs.YtgfklheepkgedaaGreat
