/- Contracts of the program's functions and plain laws, part 13: they hold for all arguments. -/
import Derived.Test.YtgfklheepkgedaaGreatQ11
import Derived.Test.YtgfklheepkgedaaGreatQ08
import Derived.Test.YtgfklheepkgedaaGreatQ07
import Derived.Test.YtgfklheepkgedaaGreatQ12
/- The blocks of reset's jumps. -/
namespace Go.Proofs.YtgfklheepkgedaaGreat
open Go.RowKit
set_option maxRecDepth 100000
/-- The estimate behind a jump. -/
def jpS (S : Nat → Int) (fr : Nat) (L : Nat → Int) (n : Nat) : Nat → Int := keepF (mvS (keepF S) fr L n)
def jpH (h : Bool) (S : Nat → Int) (fr : Nat) (L : Nat → Int) (n : Nat) : Bool := h || keepH S || orB (mvB (keepF S) fr L) n || keepH (mvS (keepF S) fr L n)
def two2 (a b : Int) : Nat → Int := fun i => if i = 0 then a else b
theorem slc_b1 (w : World) (x : Int) : Slc (w.alloc (.cells #[.int .i64 x] 2)) (some ⟨w.heap.size, 0, none⟩) 1 (fun _ => x) := by
 intro i hi
 obtain rfl : i = 0 := by omega
 exact ⟨_, _, rfl, by simp [go_sem]⟩
theorem slc_b2 (w : World) (x y : Int) : Slc (w.alloc (.cells #[.int .i64 x, .int .i64 y] 2)) (some ⟨w.heap.size, 0, none⟩) 2 (two2 x y) := by
 intro i hi
 obtain rfl | rfl : i = 0 ∨ i = 1 := by omega
 ·exact ⟨_, _, rfl, by simp [go_sem, two2]⟩
 ·exact ⟨_, _, rfl, by simp [go_sem, two2]⟩
theorem slc_v1 (w : World) (x : Int) : Slc (w.alloc (.cells #[.int .i64 x] 2)) (some ⟨w.heap.size, 0, none⟩) 1 (fun _ => x) := slc_b1 w x
theorem slc_v2 (w : World) (x : Int) : Slc (w.alloc (.cells #[.int .i64 x, .int .i64 x] 2)) (some ⟨w.heap.size, 0, none⟩) 2 (fun _ => x) := by
 intro i hi
 obtain rfl | rfl : i = 0 ∨ i = 1 := by omega
 ·exact ⟨_, _, rfl, by simp [go_sem]⟩
 ·exact ⟨_, _, rfl, by simp [go_sem]⟩
theorem slc_v3 (w : World) (x : Int) : Slc (w.alloc (.cells #[.int .i64 x, .int .i64 x, .int .i64 x] 2)) (some ⟨w.heap.size, 0, none⟩) 3 (fun _ => x) := by
 intro i hi
 obtain rfl | rfl | rfl : i = 0 ∨ i = 1 ∨ i = 2 := by omega
 ·exact ⟨_, _, rfl, by simp [go_sem]⟩
 ·exact ⟨_, _, rfl, by simp [go_sem]⟩
 ·exact ⟨_, _, rfl, by simp [go_sem]⟩
theorem Slc.of_blk {w : World} {b T n : Nat} {f : Nat → Int} (h : Blk w b T n f) : Slc w (some ⟨b, 0, none⟩) n f := fun i hi => ⟨b, 0, rfl, by rw [Nat.zero_add]; exact h.cell hi⟩
structure JpR (c : Addr) (h : Bool) (z : Nat) (F P : Nat → Int) (w wr : World) : Prop where
 upd : Upd c h w wr
 s : Blk wr w.heap.size 23 24 F
 p : Blk wr (w.heap.size + 1) 26 300 P
 r0 : Blk wr z 23 24 (fun _ => 0)
 r1 : Blk wr (z + 1) 26 300 (fun _ => 0)
 r2 : Blk wr (z + 1 + 1) 42 11 (fun _ => 0)
 lt : w.heap.size + 1 < z
theorem JpR.upd' {c : Addr} {h h' : Bool} {z : Nat} {F P : Nat → Int} {w wr w' : World} (s : JpR c h z F P w wr) (hc : c.block < w.heap.size) (u : Upd c h' wr w') : JpR c h' z F P w w' := by
 have := s.lt
 exact ⟨s.upd.trans u, s.s.upd u (by omega), s.p.upd u (by omega), s.r0.upd u (by omega), s.r1.upd u (by omega), s.r2.upd u (by omega), s.lt⟩
theorem JpR.down {c : Addr} {h : Bool} {z : Nat} {F P : Nat → Int} {w wr w' : World} (s : JpR c h z F P w wr) (u : Below wr.heap.size wr w') : JpR c h z F P w w' :=
 ⟨s.upd.then u, s.s.below u, s.p.below u, s.r0.below u, s.r1.below u, s.r2.below u, s.lt⟩
theorem JpR.drew {c : Addr} {h : Bool} {z : Nat} {F P : Nat → Int} {w wr : World} (s : JpR c h z F P w wr) : JpR c h z F P w wr.drew := s.down (Below.drew (Below.refl _ _))
theorem JpR.rowS {c : Addr} {h : Bool} {z : Nat} {F P : Nat → Int} {w wr : World} (s : JpR c h z F P w wr) (G : Nat → Int) : JpR c h z G P w (wr.setRow w.heap.size (arrv 24 G)) := by
 have := s.lt
 exact ⟨s.upd.then' (below_row (Below.refl _ _) (Nat.le_refl _) _), s.s.setRow G, s.p.setRow_other _ (by omega), s.r0.setRow_other _ (by omega), s.r1.setRow_other _ (by omega), s.r2.setRow_other _ (by omega), s.lt⟩
theorem JpR.far {c : Addr} {h : Bool} {z : Nat} {F P : Nat → Int} {w wr : World} (s : JpR c h z F P w wr) {b : Nat} (hb : z + 1 + 1 < b) (cs : Array Value) : JpR c h z F P w (wr.setRow b cs) := by
 have := s.lt
 exact ⟨s.upd.then' (below_row (Below.refl _ _) (by omega) _), s.s.setRow_other _ (by omega), s.p.setRow_other _ (by omega), s.r0.setRow_other _ (by omega), s.r1.setRow_other _ (by omega), s.r2.setRow_other _ (by omega), s.lt⟩
theorem jp_start (c : Addr) (h : Bool) (S P : Nat → Int) (w : World) (hc : w.cell? c = some (.bool h)) :
  JpR c h (w.heap.size + 1 + 1) S P w (((((w.alloc (.cells (arrv 24 S) 23)).alloc (.cells (arrv 300 P) 26)).alloc (.cells #[.int .i64 0, .int .i64 0, .int .i64 0, .int .i64 0, .int .i64 0, .int .i64 0, .int .i64 0, .int .i64 0, .int .i64 0, .int .i64 0, .int .i64 0, .int .i64 0, .int .i64 0, .int .i64 0, .int .i64 0, .int .i64 0, .int .i64 0, .int .i64 0, .int .i64 0, .int .i64 0, .int .i64 0, .int .i64 0, .int .i64 0, .int .i64 0] 23)).alloc (.cells Tryz.zeroCells26 26)).alloc (.cells #[.int .i64 0, .int .i64 0, .int .i64 0, .int .i64 0, .int .i64 0, .int .i64 0, .int .i64 0, .int .i64 0, .int .i64 0, .int .i64 0, .int .i64 0] 42)) := by
 rw [zvec24, zcov, ztd]
 refine ⟨Upd.then (Upd.refl hc) (by (repeat (first | with_reducible exact Below.refl _ _ | with_reducible apply Below.drew | (with_reducible refine below_drewN ?_ _) | (with_reducible refine Below.alloc ?_ (by (try simp) <;> omega) _) | (with_reducible refine Below.setCell ?_ (by (try simp) <;> omega) _)))), ((((Blk.new w _ 24 _).alloc _).alloc _).alloc _).alloc _, (((Blk.new1 w _ _ 300 _).alloc _).alloc _).alloc _, ((blk_new2 w _ _ _ 24 _).alloc _).alloc _, (blk_new3 w _ _ _ _ 300 _).alloc _, ?_, by omega⟩
 have h := blk_new3 (w.alloc (.cells (arrv 24 S) 23)) (.cells (arrv 300 P) 26) (.cells (arrv 24 (fun _ => 0)) 23) (.cells (arrv 300 (fun _ => 0)) 26) 42 11 (fun _ => 0)
 rwa [show (w.alloc (.cells (arrv 24 S) 23)).heap.size = w.heap.size + 1 from by simp] at h
theorem jp_startV (c : Addr) (h : Bool) (S P T : Nat → Int) (w : World) (hc : w.cell? c = some (.bool h)) :
  JpR c h (w.heap.size + 1 + 1 + 1) S P w ((((((w.alloc (.cells (arrv 24 S) 23)).alloc (.cells (arrv 300 P) 26)).alloc (.cells (arrv 3 T) 28)).alloc (.cells #[.int .i64 0, .int .i64 0, .int .i64 0, .int .i64 0, .int .i64 0, .int .i64 0, .int .i64 0, .int .i64 0, .int .i64 0, .int .i64 0, .int .i64 0, .int .i64 0, .int .i64 0, .int .i64 0, .int .i64 0, .int .i64 0, .int .i64 0, .int .i64 0, .int .i64 0, .int .i64 0, .int .i64 0, .int .i64 0, .int .i64 0, .int .i64 0] 23)).alloc (.cells Tryz.zeroCells26 26)).alloc (.cells #[.int .i64 0, .int .i64 0, .int .i64 0, .int .i64 0, .int .i64 0, .int .i64 0, .int .i64 0, .int .i64 0, .int .i64 0, .int .i64 0, .int .i64 0] 42)) ∧
  Blk ((((((w.alloc (.cells (arrv 24 S) 23)).alloc (.cells (arrv 300 P) 26)).alloc (.cells (arrv 3 T) 28)).alloc (.cells #[.int .i64 0, .int .i64 0, .int .i64 0, .int .i64 0, .int .i64 0, .int .i64 0, .int .i64 0, .int .i64 0, .int .i64 0, .int .i64 0, .int .i64 0, .int .i64 0, .int .i64 0, .int .i64 0, .int .i64 0, .int .i64 0, .int .i64 0, .int .i64 0, .int .i64 0, .int .i64 0, .int .i64 0, .int .i64 0, .int .i64 0, .int .i64 0] 23)).alloc (.cells Tryz.zeroCells26 26)).alloc (.cells #[.int .i64 0, .int .i64 0, .int .i64 0, .int .i64 0, .int .i64 0, .int .i64 0, .int .i64 0, .int .i64 0, .int .i64 0, .int .i64 0, .int .i64 0] 42)) (w.heap.size + 1 + 1) 28 3 T := by
 rw [zvec24, zcov, ztd]
 have e1 : (w.alloc (.cells (arrv 24 S) 23)).heap.size = w.heap.size + 1 := by simp
 have e2 : ((w.alloc (.cells (arrv 24 S) 23)).alloc (.cells (arrv 300 P) 26)).heap.size = w.heap.size + 1 + 1 := by simp
 refine ⟨⟨Upd.then (Upd.refl hc) (by (repeat (first | with_reducible exact Below.refl _ _ | with_reducible apply Below.drew | (with_reducible refine below_drewN ?_ _) | (with_reducible refine Below.alloc ?_ (by (try simp) <;> omega) _) | (with_reducible refine Below.setCell ?_ (by (try simp) <;> omega) _)))), (((((Blk.new w _ 24 _).alloc _).alloc _).alloc _).alloc _).alloc _, ((((Blk.new1 w _ _ 300 _).alloc _).alloc _).alloc _).alloc _, ((blk_new3 w _ _ _ _ 24 _).alloc _).alloc _, ?_, ?_, by omega⟩, (((blk_new2 w _ _ _ 3 _).alloc _).alloc _).alloc _⟩
 ·have h := blk_new3 (w.alloc (.cells (arrv 24 S) 23)) (.cells (arrv 300 P) 26) (.cells (arrv 3 T) 28) (.cells (arrv 24 (fun _ => 0)) 23) 26 300 (fun _ => 0)
  rw [e1] at h
  exact h.alloc _
 ·have h := blk_new3 ((w.alloc (.cells (arrv 24 S) 23)).alloc (.cells (arrv 300 P) 26)) (.cells (arrv 3 T) 28) (.cells (arrv 24 (fun _ => 0)) 23) (.cells (arrv 300 (fun _ => 0)) 26) 42 11 (fun _ => 0)
  rw [e2] at h
  exact h
/-- What is told, laid behind. -/
theorem jp_told {c : Addr} {h : Bool} {z : Nat} {F P : Nat → Int} {w wr : World} (s : JpR c h z F P w wr) {B : Nat} {v : Value} {n : Nat} {D : Nat → Int} (o : Own wr B 2 v n D) (hB : z + 1 + 1 + 1 ≤ B) (T : Nat → Int) :
  JpR c h z F P w ((wr.alloc (.cells #[.int .i64 0, .int .i64 0, .int .i64 0, .int .i64 0, .int .i64 0, .int .i64 0, .int .i64 0, .int .i64 0, .int .i64 0, .int .i64 0, .int .i64 0] 42)).setRow wr.heap.size (arrv 11 T)) ∧ Own ((wr.alloc (.cells #[.int .i64 0, .int .i64 0, .int .i64 0, .int .i64 0, .int .i64 0, .int .i64 0, .int .i64 0, .int .i64 0, .int .i64 0, .int .i64 0, .int .i64 0] 42)).setRow wr.heap.size (arrv 11 T)) B 2 v n D ∧
  Blk ((wr.alloc (.cells #[.int .i64 0, .int .i64 0, .int .i64 0, .int .i64 0, .int .i64 0, .int .i64 0, .int .i64 0, .int .i64 0, .int .i64 0, .int .i64 0, .int .i64 0] 42)).setRow wr.heap.size (arrv 11 T)) wr.heap.size 42 11 T ∧ z + 1 + 1 < wr.heap.size := by
 have hz := s.r2.lt
 have b : Below wr.heap.size wr ((wr.alloc (.cells #[.int .i64 0, .int .i64 0, .int .i64 0, .int .i64 0, .int .i64 0, .int .i64 0, .int .i64 0, .int .i64 0, .int .i64 0, .int .i64 0, .int .i64 0] 42)).setRow wr.heap.size (arrv 11 T)) := below_row ((Below.refl _ _).alloc (Nat.le_refl _) _) (Nat.le_refl _) _
 refine ⟨s.down b, o.below b, ?_, hz⟩
 rw [ztd]
 exact (Blk.new _ _ _ _).setRow _
/-- What is told, changed. -/
theorem jp_set {c : Addr} {h : Bool} {z : Nat} {F P : Nat → Int} {w wr : World} (s : JpR c h z F P w wr) {tb : Nat} {T : Nat → Int} (t : Blk wr tb 42 11 T) (hb : z + 1 + 1 < tb) (U : Nat → Int) :
  JpR c h z F P w (wr.setRow tb (arrv 11 U)) ∧ Blk (wr.setRow tb (arrv 11 U)) tb 42 11 U ∧ z + 1 + 1 < tb := ⟨s.far hb _, t.setRow U, hb⟩
section
variable {c : Addr} {h : Bool} {z tb : Nat} {F P T : Nat → Int} {w wr w' : World}
theorem jp_down (s : JpR c h z F P w wr ∧ Blk wr tb 42 11 T ∧ z + 1 + 1 < tb) (u : Below wr.heap.size wr w') : JpR c h z F P w w' ∧ Blk w' tb 42 11 T ∧ z + 1 + 1 < tb := ⟨s.1.down u, s.2.1.below u, s.2.2⟩
theorem jp_drew (s : JpR c h z F P w wr ∧ Blk wr tb 42 11 T ∧ z + 1 + 1 < tb) : JpR c h z F P w wr.drew ∧ Blk wr.drew tb 42 11 T ∧ z + 1 + 1 < tb := jp_down s (Below.drew (Below.refl _ _))
theorem jp_upd {h' : Bool} (s : JpR c h z F P w wr ∧ Blk wr tb 42 11 T ∧ z + 1 + 1 < tb) (hc : c.block < w.heap.size) (u : Upd c h' wr w') : JpR c h' z F P w w' ∧ Blk w' tb 42 11 T ∧ z + 1 + 1 < tb := by
 have := s.1.lt
 have := s.2.2
 exact ⟨s.1.upd' hc u, s.2.1.upd u (by omega), s.2.2⟩
theorem jp_k0 (s : JpR c h z F P w wr) (t : Blk wr tb 42 11 T) (hb : z + 1 + 1 < tb) (G : Nat → Int) :
  Blk (wr.setRow z (arrv 24 G)) w.heap.size 23 24 F ∧ Blk (wr.setRow z (arrv 24 G)) (w.heap.size + 1) 26 300 P ∧ Blk (wr.setRow z (arrv 24 G)) tb 42 11 T := by
 have := s.lt
 exact ⟨s.s.setRow_other _ (by omega), s.p.setRow_other _ (by omega), t.setRow_other _ (by omega)⟩
theorem jp_k1 (s : JpR c h z F P w wr) (t : Blk wr tb 42 11 T) (hb : z + 1 + 1 < tb) (G Q : Nat → Int) :
  Blk ((wr.setRow z (arrv 24 G)).setRow (z + 1) (arrv 300 Q)) w.heap.size 23 24 F ∧ Blk ((wr.setRow z (arrv 24 G)).setRow (z + 1) (arrv 300 Q)) (w.heap.size + 1) 26 300 P ∧ Blk ((wr.setRow z (arrv 24 G)).setRow (z + 1) (arrv 300 Q)) tb 42 11 T := by
 have := s.lt
 have k := jp_k0 s t hb G
 exact ⟨k.1.setRow_other _ (by omega), k.2.1.setRow_other _ (by omega), k.2.2.setRow_other _ (by omega)⟩
/-- The three results, one behind the other. -/
theorem jp_all (s : JpR c h z F P w wr) (G Q U : Nat → Int) :
  Blk (wr.setRow z (arrv 24 G)) (z + 1) 26 300 (fun _ => 0) ∧ Blk ((wr.setRow z (arrv 24 G)).setRow (z + 1) (arrv 300 Q)) (z + 1 + 1) 42 11 (fun _ => 0) ∧
  Blk (((wr.setRow z (arrv 24 G)).setRow (z + 1) (arrv 300 Q)).setRow (z + 1 + 1) (arrv 11 U)) z 23 24 G ∧ Blk (((wr.setRow z (arrv 24 G)).setRow (z + 1) (arrv 300 Q)).setRow (z + 1 + 1) (arrv 11 U)) (z + 1) 26 300 Q ∧
  Blk (((wr.setRow z (arrv 24 G)).setRow (z + 1) (arrv 300 Q)).setRow (z + 1 + 1) (arrv 11 U)) (z + 1 + 1) 42 11 U ∧ Upd c h w (((wr.setRow z (arrv 24 G)).setRow (z + 1) (arrv 300 Q)).setRow (z + 1 + 1) (arrv 11 U)) := by
 have := s.lt
 have a1 : Blk (wr.setRow z (arrv 24 G)) (z + 1) 26 300 (fun _ => 0) := s.r1.setRow_other _ (by omega)
 have a2 : Blk ((wr.setRow z (arrv 24 G)).setRow (z + 1) (arrv 300 Q)) (z + 1 + 1) 42 11 (fun _ => 0) := (s.r2.setRow_other _ (by omega)).setRow_other _ (by omega)
 refine ⟨a1, a2, ((s.r0.setRow G).setRow_other _ (by omega)).setRow_other _ (by omega), (a1.setRow Q).setRow_other _ (by omega), a2.setRow U, ?_⟩
 exact ((s.upd.then' (below_row (Below.refl _ _) (by omega) _)).then' (below_row (Below.refl _ _) (by omega) _)).then' (below_row (Below.refl _ _) (by omega) _)
end
end Go.Proofs.YtgfklheepkgedaaGreat
/- Contracts of package rot (2): Of. -/
namespace Go.Proofs.YtgfklheepkgedaaGreat
open Go.RowKit
set_option maxRecDepth 100000
end Go.Proofs.YtgfklheepkgedaaGreat
/- Contracts of package rot (3): Apply. -/
namespace Go.Proofs.YtgfklheepkgedaaGreat
open Go.RowKit
set_option maxRecDepth 100000
end Go.Proofs.YtgfklheepkgedaaGreat
/- The rotations of a vector and of a heading, as the program's numbers. No program. -/
namespace Go.Proofs.YtgfklheepkgedaaGreat
def fyM (a : Int) : Int := mulV (wrpV a) 536870912 30
def fyV (a : Int) : Nat → Int := uniV (q4 (cosV (fyM a)) 0 0 (sinV (fyM a)))
def fyH (a : Int) : Bool := mulH (wrpV a) 536870912 30 || cosH (fyM a) || sinH (fyM a) || uniH (q4 (cosV (fyM a)) 0 0 (sinV (fyM a)))
end Go.Proofs.YtgfklheepkgedaaGreat
/- Contracts of package rot (4): Exp. -/
namespace Go.Proofs.YtgfklheepkgedaaGreat
open Go.RowKit
set_option maxRecDepth 100000
open Go in
theorem run_build_q4' {o : Oper} {ev : Operand → Value} {w : World} (x u : Operand) (ho : o.op = .build 38 #[(0, x), (3, u)]) {a d : Int} (hx : ev x = .int .i64 a) (hu : ev u = .int .i64 d) :
  (execOp ev o).run Tryz.prog w = .ok (.value (.agg (arrv 4 (q4 a 0 0 d)))) w := by
 unfold execOp
 simp only [ho, List.map_toArray, List.map_cons, List.map_nil, hx, hu]
 kernel_rfl
end Go.Proofs.YtgfklheepkgedaaGreat
/- Contracts of package rot (5): FromYaw. -/
namespace Go.Proofs.YtgfklheepkgedaaGreat
open Go.RowKit
set_option maxRecDepth 100000
/-- The blocks of rot.FromYaw. -/
structure FyR (c : Addr) (h : Bool) (w wr : World) : Prop where
 upd : Upd c h w wr
 r : Blk wr w.heap.size 38 4 (fun _ => 0)
 cell : wr.cell? c = some (.bool h)
 free : wr.frozen? c = false
 cb : c.block < w.heap.size
theorem FyR.upd' {c : Addr} {h h' : Bool} {w wr w' : World} (s : FyR c h w wr) (u : Upd c h' wr w') : FyR c h' w w' := by
 have hcb := s.cb
 exact ⟨s.upd.trans u, s.r.upd u (by omega), u.cellc s.cell, (u.frozen (World.block_lt_of_cell? _ _ s.cell)).trans s.free, s.cb⟩
theorem fy_start (c : Addr) (h : Bool) (w : World) (hc : w.cell? c = some (.bool h)) (hf : w.frozen? c = false) :
  FyR c h w (w.alloc (.cells #[.int .i64 0, .int .i64 0, .int .i64 0, .int .i64 0] 38)) := by
 have hcb := World.block_lt_of_cell? w c hc
 have bl : Below w.heap.size w (w.alloc (.cells #[.int .i64 0, .int .i64 0, .int .i64 0, .int .i64 0] 38)) := by (repeat (first | with_reducible exact Below.refl _ _ | with_reducible apply Below.drew | (with_reducible refine below_drewN ?_ _) | (with_reducible refine Below.alloc ?_ (by (try simp) <;> omega) _) | (with_reducible refine Below.setCell ?_ (by (try simp) <;> omega) _)))
 refine ⟨Upd.then (Upd.refl hc) bl, ?_, (bl.cell hcb).trans hc, (bl.frozen hcb).trans hf, hcb⟩
 rw [zq4]; exact Blk.new w _ 4 _
set_option maxHeartbeats 8000000 in
theorem fromyaw_any (c : Addr) (h : Bool) (a : Int) (w : World) (hc : w.cell? c = some (.bool h)) (hf : w.frozen? c = false) :
  Calls Tryz.prog 21 #[.pointer (some c), .int .i64 a] w fun e w' => e = .returned (.agg (arrv 4 (fyV a))) ∧ Upd c (h || fyH a) w w' := by
 have S0 := Lib.hid (fy_start c h w hc hf)
 have WC := fun (x : World) => wrap_any a x
 have MC := fun (x : World) (k : x.cell? c = some (.bool h)) (f : x.frozen? c = false) => fmul_any c h (wrpV a) 536870912 30 x k f
 have HV : fyV a = uniV (q4 (cosV (fyM a)) 0 0 (sinV (fyM a))) ∧ (h || fyH a) = (h || mulH (wrpV a) 536870912 30 || cosH (fyM a) || sinH (fyM a) || uniH (q4 (cosV (fyM a)) 0 0 (sinV (fyM a)))) := ⟨rfl, by unfold fyH; simp [Bool.or_assoc]⟩
 rw [show mulV (wrpV a) 536870912 30 = fyM a from rfl] at MC
 obtain ⟨W, hW⟩ : ∃ x, wrpV a = x := ⟨_, rfl⟩
 obtain ⟨M, hM⟩ : ∃ x, fyM a = x := ⟨_, rfl⟩
 rw [hW] at WC MC HV
 rw [hM] at MC HV
 obtain ⟨H1, hH1⟩ : ∃ x, (h || mulH W 536870912 30) = x := ⟨_, rfl⟩
 rw [hH1] at MC HV
 have CC := fun (x : World) (k : x.cell? c = some (.bool H1)) (f : x.frozen? c = false) => cos_any c H1 M x k f
 obtain ⟨C, hC⟩ : ∃ x, cosV M = x := ⟨_, rfl⟩
 obtain ⟨H2, hH2⟩ : ∃ x, (H1 || cosH M) = x := ⟨_, rfl⟩
 rw [hC, hH2] at CC
 rw [hC, hH2] at HV
 have NN := fun (x : World) (k : x.cell? c = some (.bool H2)) (f : x.frozen? c = false) => sin_any c H2 M x k f
 obtain ⟨S, hS⟩ : ∃ x, sinV M = x := ⟨_, rfl⟩
 obtain ⟨H3, hH3⟩ : ∃ x, (H2 || sinH M) = x := ⟨_, rfl⟩
 rw [hS, hH3] at NN
 rw [hS, hH3] at HV
 have UC := fun (x : World) (k : x.cell? c = some (.bool H3)) (f : x.frozen? c = false) => qunit_any c H3 (q4 C 0 0 S) x k f
 obtain ⟨E, hE⟩ : ∃ x, uniV (q4 C 0 0 S) = x := ⟨_, rfl⟩
 rw [hE] at UC HV
 have WC := Lib.hid WC
 have MC := Lib.hid MC
 have CC := Lib.hid CC
 have NN := Lib.hid NN
 have UC := Lib.hid UC
 have HV := Lib.hid HV
 clear hW hM hH1 hC hH2 hS hH3 hE hc hf
 go_enter Tryz.func21, Tryz.ntmps21
 go_upto_region 1 with fail
 generalize w.alloc (.cells #[.int .i64 0, .int .i64 0, .int .i64 0, .int .i64 0] 38) = W0 at *
 go_upto_region 2 with (first | (go_at_call 44; (refine (WC.out _).mono ?_); rintro e w1 ⟨rfl, rfl⟩) | (go_at_call 43; (refine (MC.out _ S0.out.cell S0.out.free).mono ?_); rintro e w2 ⟨rfl, hu⟩; have S1 := Lib.hid (S0.out.upd' hu); clear hu S0))
 refine wp_region_lit ?_
 refine tv ?_
 (try simp only [Act.put, nA, nB, nC])
 refine tv ?_
 (try simp only [Act.put, nA, nB, nC])
 refine tv ?_
 (try simp only [Act.put, nA, nB, nC])
 refine wpList_step (fun K hK => ?_)
 go_simp
 (refine (CC.out _ S1.out.cell S1.out.free).mono ?_); rintro e w3 ⟨rfl, hu⟩; have S2 := Lib.hid (S1.out.upd' hu); clear hu S1
 (try dsimp only)
 (try simp only [Act.put, nA, nB, nC])
 refine hK _ _ ?_
 clear hK K
 refine tv ?_
 (try simp only [Act.put, nA, nB, nC])
 refine tv ?_
 (try simp only [Act.put, nA, nB, nC])
 refine wpList_step (fun K hK => ?_)
 go_simp
 (refine (NN.out _ S2.out.cell S2.out.free).mono ?_); rintro e w4 ⟨rfl, hu⟩; have S3 := Lib.hid (S2.out.upd' hu); clear hu S2
 (try dsimp only)
 (try simp only [Act.put, nA, nB, nC])
 refine hK _ _ ?_
 clear hK K
 refine wpList_val (v := ?_) rfl ?_ ?_
 rotate_left
 ·(refine Eq.trans (run_build_q4' (.tmp 13) (.tmp 16) (by rfl) (by rfl) (by rfl)) ?_; with_reducible rfl)
 (try simp only [Act.put, nA, nB, nC])
 refine wpList_step (fun K hK => ?_)
 go_simp
 (refine (UC.out _ S3.out.cell S3.out.free).mono ?_); rintro e w5 ⟨rfl, hu⟩; have S4 := Lib.hid (S3.out.upd' hu); clear hu S3
 (try dsimp only)
 (try simp only [Act.put, nA, nB, nC])
 refine hK _ _ ?_
 clear hK K
 refine wpList_done (w' := ?_) rfl ?_ ?_
 rotate_left
 ·(refine Eq.trans (run_store_row 38 (.tmp 4) (.tmp 18) (by rfl) w.heap.size (by rfl) (by rfl) S4.out.r (iqt.trans rfl)) ?_; with_reducible rfl)
 (try simp only [Act.put, nA, nB, nC])
 refine wpList_nil ?_
 have r1 := S4.out.r.setRow E
 have B1 := S4.out.upd.then' (below_row (Below.refl _ _) (Nat.le_refl w.heap.size) (arrv 4 E))
 rw [← HV.out.2] at B1
 generalize w5.setRow w.heap.size (arrv 4 E) = W6 at *
 go_wp2_with fail
 refine bodyPost_ret (results_cell_row Tryz.results21 _ _ w.heap.size 38 (arrv 4 E) (0, 0) _ rfl r1 Tryz.underlying38 rfl (iqt.trans (by rw [arrv_size]))) rfl ⟨by rw [HV.out.1], B1⟩
end Go.Proofs.YtgfklheepkgedaaGreat
/- Contract of reset.Yaw. -/
namespace Go.Proofs.YtgfklheepkgedaaGreat
open Go.RowKit
set_option maxRecDepth 100000
theorem qlen : Tryz.prog.arrayLen 38 = 4 := by kernel_rfl
theorem qund : Tryz.prog.underlying 38 = some (.array (Tryz.prog.arrayLen 38) (Tryz.prog.elem 38)) := by kernel_rfl
open Go in
/-- q[:] of a quaternion, wherever it lies. -/
theorem run_slice_q {o : Oper} {ev : Operand → Value} {w : World} (x : Operand) (ho : o.op = .slice 38 x none none none) (g off : Nat) (hx : ev x = .pointer (some ⟨g, off, none⟩)) :
  (execOp ev o).run Tryz.prog w = .ok (.value (.slice (some ⟨g, off, none⟩) 4 4)) w := by
 have h := run_sliceAt_array_all (P := Tryz.prog) w 38 ⟨g, off, none⟩ qund
 unfold execOp
 simp only [ho, hx, Option.map_none]
 rw [Sem.run_bind, h]
 have hs : (sizeOf (Tryz.prog.elem 38)).run Tryz.prog w = .ok 1 w := by rw [show Tryz.prog.elem 38 = 2 from by kernel_rfl]; simp [go_sem]
 rw [hs, qlen]
 simp [slicedAt, go_sem]
/-- The turned attitude, and the estimate with it. -/
def ywQ (S : Nat → Int) (a : Int) : Nat → Int := uniV (qmV (fyV a) (keepF S))
def ywS (S : Nat → Int) (a : Int) : Nat → Int := keepF (withF (keepF S) 0 4 (ywQ S a))
def ywT (a : Int) : Nat → Int := putF (tdF dl0 1) 0 4 (fyV a)
def ywH (h : Bool) (S : Nat → Int) (a : Int) : Bool := h || keepH S || fyH a || qmH (fyV a) (keepF S) || uniH (qmV (fyV a) (keepF S)) || keepH (withF (keepF S) 0 4 (ywQ S a))
section
variable {c : Addr} {h : Bool} {z tb qb : Nat} {F P T Q : Nat → Int} {w wr w' : World}
/-- The blocks of Yaw, once the quaternion lies there. -/
structure YwR (c : Addr) (h : Bool) (z tb qb : Nat) (F P T Q : Nat → Int) (w wr : World) : Prop where
 j : JpR c h z F P w wr
 t : Blk wr tb 42 11 T
 q : Blk wr qb 38 4 Q
 lt : z + 1 + 1 < tb ∧ z + 1 + 1 < qb
theorem YwR.down (s : YwR c h z tb qb F P T Q w wr) (u : Below wr.heap.size wr w') : YwR c h z tb qb F P T Q w w' := ⟨s.j.down u, s.t.below u, s.q.below u, s.lt⟩
theorem YwR.drew (s : YwR c h z tb qb F P T Q w wr) : YwR c h z tb qb F P T Q w wr.drew := s.down (Below.drew (Below.refl _ _))
theorem YwR.upd' {h' : Bool} (s : YwR c h z tb qb F P T Q w wr) (hc : c.block < w.heap.size) (u : Upd c h' wr w') : YwR c h' z tb qb F P T Q w w' := by
 have := s.j.lt
 have := s.lt
 exact ⟨s.j.upd' hc u, s.t.upd u (by omega), s.q.upd u (by omega), s.lt⟩
end
section
variable {c : Addr} {h : Bool} {z tb : Nat} {F P T : Nat → Int} {w wr : World}
theorem ya_new (s : JpR c h z F P w wr ∧ Blk wr tb 42 11 T ∧ z + 1 + 1 < tb) : Blk (wr.alloc (.cells #[.int .i64 0, .int .i64 0, .int .i64 0, .int .i64 0] 38)) wr.heap.size 38 4 (fun _ => 0) ∧ tb < wr.heap.size := by
 rw [zq4]
 exact ⟨Blk.new _ _ _ _, s.2.1.lt⟩
theorem yw_put (s : JpR c h z F P w wr ∧ Blk wr tb 42 11 T ∧ z + 1 + 1 < tb) {b : Nat} (a : Blk wr b 38 4 (fun _ => 0) ∧ tb < b) (U : Nat → Int) : YwR c h z tb b F P T U w (wr.setRow b (arrv 4 U)) := by
 have := s.2.2
 have := a.2
 exact ⟨s.1.far (by omega) _, s.2.1.setRow_other _ (by omega), a.1.setRow U, by omega, by omega⟩
end
theorem blk_v4 (w : World) (v : Int) : Blk (w.alloc (.cells #[.int .i64 v, .int .i64 v, .int .i64 v, .int .i64 v] 2)) w.heap.size 2 4 (fun _ => v) := by
 rw [show (#[.int .i64 v, .int .i64 v, .int .i64 v, .int .i64 v] : Array Value) = arrv 4 (fun _ => v) from by kernel_rfl]
 exact Blk.new _ _ _ _
theorem yw_lst {c : Addr} {h : Bool} {z tb qb : Nat} {F P T Q : Nat → Int} {w wr : World} (s : YwR c h z tb qb F P T Q w wr) (v : Int) : Blk (wr.alloc (.cells #[.int .i64 v, .int .i64 v, .int .i64 v, .int .i64 v] 2)) wr.heap.size 2 4 (fun _ => v) ∧ w.heap.size ≤ wr.heap.size :=
 ⟨blk_v4 wr v, s.j.upd.size⟩
set_option maxHeartbeats 16000000 in
theorem yaw_any (c : Addr) (h : Bool) (S P : Nat → Int) (a v : Int) (w : World) (hc : w.cell? c = some (.bool h)) (hf : w.frozen? c = false) :
  Calls Tryz.prog 6 #[.pointer (some c), .agg (arrv 24 S), .agg (arrv 300 P), .int .i64 a, .int .i64 v] w fun e w' =>
   e = .returned (.tuple #[.agg (arrv 24 (ywS S a)), .agg (arrv 300 (stepF P (rtF 0 4) (rtQ 0 (fun _ => v) 4))), .agg (arrv 11 (ywT a))]) ∧
   Upd c (ywH h S a || orB (rtB 0 (fun _ => v)) 4 || stepH P (rtF 0 4) (rtQ 0 (fun _ => v) 4)) w w' := by
 have hcb := World.block_lt_of_cell? w c hc
 have S0 := Lib.hid (jp_start c h S P w hc)
 have HC := Lib.hid hc
 have HF := Lib.hid hf
 clear hc hf
 obtain ⟨KE, hKE⟩ : ∃ x, keepF S = x := ⟨_, rfl⟩
 obtain ⟨Y, hY⟩ : ∃ x, fyV a = x := ⟨_, rfl⟩
 obtain ⟨M, hM⟩ : ∃ x, qmV Y KE = x := ⟨_, rfl⟩
 obtain ⟨U, hU⟩ : ∃ x, uniV M = x := ⟨_, rfl⟩
 obtain ⟨V, hV⟩ : ∃ x, withF KE 0 4 U = x := ⟨_, rfl⟩
 obtain ⟨TD, hTD⟩ : ∃ x, putF (tdF dl0 1) 0 4 Y = x := ⟨_, rfl⟩
 have EL := Lib.hid (show arrv 4 (fun i => TD i) = arrv 4 Y from arrv_congr fun i hi => by rw [← hTD]; unfold putF; rw [if_pos (by omega)]; congr 1)
 have HE := Lib.hid (show ywS S a = keepF V ∧ ywT a = TD ∧ ywH h S a = (h || keepH S || fyH a || qmH Y KE || uniH M || keepH V) by
  unfold ywS ywT ywH ywQ; rw [hKE, hY, hM, hU, hV, hTD]; exact ⟨rfl, rfl, rfl⟩)
 have NK := Lib.hid hKE
 have NY := Lib.hid hY
 have NM := Lib.hid hM
 have NU := Lib.hid hU
 have NV := Lib.hid hV
 have NT := Lib.hid hTD
 clear hKE hY hM hU hV hTD
 go_enter Tryz.func6, Tryz.ntmps6
 go_upto_region 1 with fail
 generalize ((((w.alloc (.cells (arrv 24 S) 23)).alloc (.cells (arrv 300 P) 26)).alloc (.cells #[.int .i64 0, .int .i64 0, .int .i64 0, .int .i64 0, .int .i64 0, .int .i64 0, .int .i64 0, .int .i64 0, .int .i64 0, .int .i64 0, .int .i64 0, .int .i64 0, .int .i64 0, .int .i64 0, .int .i64 0, .int .i64 0, .int .i64 0, .int .i64 0, .int .i64 0, .int .i64 0, .int .i64 0, .int .i64 0, .int .i64 0, .int .i64 0] 23)).alloc (.cells Tryz.zeroCells26 26)).alloc (.cells #[.int .i64 0, .int .i64 0, .int .i64 0, .int .i64 0, .int .i64 0, .int .i64 0, .int .i64 0, .int .i64 0, .int .i64 0, .int .i64 0, .int .i64 0] 42) = W0 at *
 have P0 := S0.out.s
 refine wp_region_lit ?_
 refine tv ?_
 (try simp only [Act.put, nA, nB, nC])
 refine wpList_val (v := ?_) rfl ?_ ?_
 rotate_left
 ·refine Eq.trans (run_load_row 23 (.tmp 6) (by rfl) (w.heap.size) (by rfl) _ _ _ _ (P0) Tryz.underlying23 rfl (ist.trans (by rw [arrv_size]))) ?_; with_reducible rfl
 (try simp only [Act.put, nA, nB, nC])
 refine wpList_step (fun K hK => ?_)
 go_simp
 clear P0; (refine (keep_any c h S _ (S0.out.upd.cellc HC.out) ((S0.out.upd.frozen hcb).trans HF.out)).mono ?_); (rw [NK.out]); rintro e w1 ⟨rfl, hu⟩; have HS := Lib.hid (S0.out.upd' hcb hu); clear S0 hu; have P1 := HS.out.s
 (try dsimp only)
 (try simp only [Act.put, nA, nB, nC])
 refine hK _ _ ?_
 clear hK K
 refine wpList_done (w' := ?_) rfl ?_ ?_
 rotate_left
 ·refine Eq.trans (run_store_row 23 (.tmp 6) (.tmp 17) (by rfl) (w.heap.size) (by rfl) (by rfl) (P1) (ist.trans rfl)) ?_; with_reducible rfl
 (try simp only [Act.put, nA, nB, nC])
 refine wpList_nil ?_
 have H1 := Lib.hid (HS.out.rowS KE)
 generalize w1.setRow w.heap.size (arrv 24 KE) = W1 at *
 clear P1 HS
 go_upto_region 2 with fail
 refine wp_region_lit ?_
 refine wpList_step (fun K hK => ?_)
 go_simp
 (refine (nothing_any _).mono ?_); rintro e w2 ⟨rfl, hb⟩; have H2 := Lib.hid (H1.out.down hb); clear hb H1
 (try dsimp only)
 (try simp only [Act.put, nA, nB, nC])
 refine hK _ _ ?_
 clear hK K
 refine wpList_val (v := ?_) rfl ?_ ?_
 rotate_left
 ·(refine Eq.trans (run_build_td (.tmp 18) 1 (by rfl) (by rfl) (by rfl)) ?_; with_reducible rfl)
 (try simp only [Act.put, nA, nB, nC])
 refine wpList_act (v := ?_) (w' := ?_) rfl ?_ ?_
 rotate_left 2
 ·(go_simp; (try (first | with_reducible rfl | (constructor <;> with_reducible rfl))))
 (try simp only [Act.put, nA, nB, nC])
 refine wpList_done (w' := ?_) rfl ?_ ?_
 rotate_left
 ·(refine Eq.trans (run_store_row 42 (.tmp 13) (.tmp 19) (by rfl) (w2.heap.size) (by rfl) (by rfl) (show Blk (w2.alloc (.cells #[.int .i64 0, .int .i64 0, .int .i64 0, .int .i64 0, .int .i64 0, .int .i64 0, .int .i64 0, .int .i64 0, .int .i64 0, .int .i64 0, .int .i64 0] 42)) w2.heap.size 42 11 (fun _ => 0) by rw [ztd]; exact Blk.new _ _ _ _) (itd.trans rfl)) ?_; with_reducible rfl)
 (try simp only [Act.put, nA, nB, nC])
 refine wpList_nil ?_
 have NB := Lib.hid (jp_told H2.out (Own.nil w2 (w.heap.size + 1 + 1 + 1 + 1 + 1) 2 (fun _ => 0)) (Nat.le_refl _) (tdF dl0 1))
 generalize (w2.alloc (.cells #[.int .i64 0, .int .i64 0, .int .i64 0, .int .i64 0, .int .i64 0, .int .i64 0, .int .i64 0, .int .i64 0, .int .i64 0, .int .i64 0, .int .i64 0] 42)).setRow w2.heap.size (arrv 11 (tdF dl0 1)) = W2 at *
 obtain ⟨tb, htb⟩ : ∃ x, w2.heap.size = x := ⟨_, rfl⟩
 rw [htb] at NB ⊢
 clear htb H2
 have HS := Lib.hid (show JpR c (h || keepH S) (w.heap.size + 1 + 1) KE P w W2 ∧ Blk W2 tb 42 11 (tdF dl0 1) ∧ w.heap.size + 1 + 1 + 1 + 1 < tb from ⟨NB.out.1, NB.out.2.2.1, NB.out.2.2.2⟩)
 clear NB
 go_upto_region 3 with fail
 refine wp_region_lit ?_
 refine tv ?_
 (try simp only [Act.put, nA, nB, nC])
 refine tv ?_
 (try simp only [Act.put, nA, nB, nC])
 refine wpList_step (fun K hK => ?_)
 go_simp
 (refine (fromyaw_any c _ a _ (HS.out.1.upd.cellc HC.out) ((HS.out.1.upd.frozen hcb).trans HF.out)).mono ?_); (rw [NY.out]); rintro e w3 ⟨rfl, hu⟩; have HU := Lib.hid (jp_upd HS.out hcb hu); clear HS hu; have HS := HU; clear HU
 (try dsimp only)
 (try simp only [Act.put, nA, nB, nC])
 refine hK _ _ ?_
 clear hK K
 refine tv ?_
 (try simp only [Act.put, nA, nB, nC])
 refine tv ?_
 (try simp only [Act.put, nA, nB, nC])
 refine wpList_done (w' := ?_) rfl ?_ ?_
 rotate_left
 ·(refine Eq.trans (run_store_sub 38 (.tmp 24) (.tmp 22) (by rfl) tb 0 (by rfl) (by rfl) HS.out.2.1 (by decide) iqt) ?_; with_reducible rfl)
 (try simp only [Act.put, nA, nB, nC])
 refine wpList_nil ?_
 rw [NT.out]
 have H3 := Lib.hid (jp_set HS.out.1 HS.out.2.1 HS.out.2.2 TD)
 generalize w3.setRow tb (arrv 11 TD) = W3 at *
 clear HS
 go_upto_region 4 with fail
 have HS := Lib.hid (jp_drew H3.out)
 clear H3
 go_cut [14] from 25 to 33 (fun s14 wx => ∃ b, s14 = .pointer (some ⟨b, 0, none⟩) ∧ Hid (YwR c (h || keepH S || fyH a || qmH Y KE || uniH M) (w.heap.size + 1 + 1) tb b KE P TD U w wx))
 case first =>
  refine wp_region_M (fun w' => Blk w' w.heap.size 23 24 KE ∧ Blk w' tb 42 11 TD) 10 (by kernel_rfl) ?_ (fun hHeld => ?_)
  ·exact ⟨HS.out.1.s, HS.out.2.1⟩
  refine tk 0 ?_
  (try simp only [Act.put, nA, nB, nC])
  refine tk 1 ?_
  (try simp only [Act.put, nA, nB, nC])
  refine tk 2 ?_
  (try simp only [Act.put, nA, nB, nC])
  refine tk 3 ?_
  (try simp only [Act.put, nA, nB, nC])
  refine tl 4 (v := ?_) ?_ ?_
  rotate_left
  ·(intro wx hSw; refine Eq.trans (run_load_sub 38 (.tmp 28) (by rfl) tb 0 4 (by rfl) hSw.2 (by decide) _ Tryz.underlying38 rfl iqt) ?_; with_reducible rfl)
  (try simp only [Act.put, nA, nB, nC])
  refine tl 5 (v := ?_) ?_ ?_
  rotate_left
  ·(intro wx hSw; refine Eq.trans (run_load_row 23 (.tmp 6) (by rfl) (w.heap.size) (by rfl) _ _ _ _ (hSw.1) Tryz.underlying23 rfl (ist.trans (by rw [arrv_size]))) ?_; with_reducible rfl)
  (try simp only [Act.put, nA, nB, nC])
  refine wpAnyM_twoS 6 9 rfl rfl (by kernel_rfl) (fun K hK => ?_) (fun K hK => ?_)
  ·go_simp
   (refine (att_any KE _).mono ?_); rintro e w4 ⟨rfl, hb⟩; have HU := Lib.hid (jp_down HS.out hb); clear HS; have HS := HU; clear HU; (try (have HA2 := Lib.hid (And.intro (HA.out.1.below hb) HA.out.2); clear HA; have HA := HA2; clear HA2)); clear hb
   (try dsimp only)
   (try simp only [Act.put, nA, nB, nC])
   clear hHeld
   refine hK.out _ _ ?_ (fun hHeld => ?_)
   ·exact ⟨HS.out.1.s, HS.out.2.1⟩
   clear hK K
   (try simp only [Act.put, nA, nB, nC])
   refine wpAnyM_twoS 7 9 rfl rfl (by kernel_rfl) (fun K hK => ?_) (fun K hK => ?_)
   ·go_simp
    (rw [EL.out]); (refine (qmul_any c _ Y KE _ (HS.out.1.upd.cellc HC.out) ((HS.out.1.upd.frozen hcb).trans HF.out)).mono ?_); (rw [NM.out]); rintro e w5 ⟨rfl, hu⟩; have hlm := HS.out.1.lt; have hlt := HS.out.2.2; have HU := Lib.hid (jp_upd HS.out hcb hu); clear HS; have HS := HU; clear HU; (try (have HA2 := Lib.hid (And.intro (HA.out.1.upd hu (by have := HA.out.2; omega)) HA.out.2); clear HA; have HA := HA2; clear HA2)); clear hu hlm hlt
    (try dsimp only)
    (try simp only [Act.put, nA, nB, nC])
    clear hHeld
    refine hK.out _ _ ?_ (fun hHeld => ?_)
    ·exact ⟨HS.out.1.s, HS.out.2.1⟩
    clear hK K
    (try simp only [Act.put, nA, nB, nC])
    refine wpAnyM_twoS 8 9 rfl rfl (by kernel_rfl) (fun K hK => ?_) (fun K hK => ?_)
    ·go_simp
     (refine (qunit_any c _ M _ (HS.out.1.upd.cellc HC.out) ((HS.out.1.upd.frozen hcb).trans HF.out)).mono ?_); (rw [NU.out]); rintro e w6 ⟨rfl, hu⟩; have hlm := HS.out.1.lt; have hlt := HS.out.2.2; have HU := Lib.hid (jp_upd HS.out hcb hu); clear HS; have HS := HU; clear HU; (try (have HA2 := Lib.hid (And.intro (HA.out.1.upd hu (by have := HA.out.2; omega)) HA.out.2); clear HA; have HA := HA2; clear HA2)); clear hu hlm hlt
     (try dsimp only)
     (try simp only [Act.put, nA, nB, nC])
     clear hHeld
     refine hK.out _ _ ?_ (fun hHeld => ?_)
     ·exact ⟨HS.out.1.s, HS.out.2.1⟩
     clear hK K
     (try simp only [Act.put, nA, nB, nC])
     refine wpAnyM_oneS 9 rfl (by kernel_rfl) (fun K hK => ?_)
     go_simp; have HA := Lib.hid (ya_new HS.out); have HU := Lib.hid (jp_down HS.out ((Below.refl _ _).alloc (Nat.le_refl _) (.cells #[.int .i64 0, .int .i64 0, .int .i64 0, .int .i64 0] 38))); clear HS; have HS := HU; clear HU
     clear hHeld
     refine hK.out _ _ ?_ (fun hHeld => ?_)
     ·exact ⟨HS.out.1.s, HS.out.2.1⟩
     clear hK K
     (try simp only [Act.put, nA, nB, nC])
     refine wpAnyM_doneL 10 rfl (by kernel_rfl) (by rfl) (by kernel_rfl) (run_store_row 38 (.tmp 14) (.tmp 33) rfl _ rfl rfl HA.out.1 iqt) ?_
     (try simp only [Act.put, nA, nB, nC])
     refine wpAnyM_done (by kernel_rfl) ?_ _
     (go_wp2_with fail; go_meet; exact ⟨_, rfl, Lib.hid (yw_put HS.out HA.out U)⟩)
    ·go_simp; have HA := Lib.hid (ya_new HS.out); have HU := Lib.hid (jp_down HS.out ((Below.refl _ _).alloc (Nat.le_refl _) (.cells #[.int .i64 0, .int .i64 0, .int .i64 0, .int .i64 0] 38))); clear HS; have HS := HU; clear HU
     clear hHeld
     refine hK.out _ _ ?_ (fun hHeld => ?_)
     ·exact ⟨HS.out.1.s, HS.out.2.1⟩
     clear hK K
     (try simp only [Act.put, nA, nB, nC])
     refine wpAnyM_oneS 8 rfl (by kernel_rfl) (fun K hK => ?_)
     go_simp
     (refine (qunit_any c _ M _ (HS.out.1.upd.cellc HC.out) ((HS.out.1.upd.frozen hcb).trans HF.out)).mono ?_); (rw [NU.out]); rintro e w6 ⟨rfl, hu⟩; have hlm := HS.out.1.lt; have hlt := HS.out.2.2; have HU := Lib.hid (jp_upd HS.out hcb hu); clear HS; have HS := HU; clear HU; (try (have HA2 := Lib.hid (And.intro (HA.out.1.upd hu (by have := HA.out.2; omega)) HA.out.2); clear HA; have HA := HA2; clear HA2)); clear hu hlm hlt
     (try dsimp only)
     (try simp only [Act.put, nA, nB, nC])
     clear hHeld
     refine hK.out _ _ ?_ (fun hHeld => ?_)
     ·exact ⟨HS.out.1.s, HS.out.2.1⟩
     clear hK K
     (try simp only [Act.put, nA, nB, nC])
     refine wpAnyM_doneL 10 rfl (by kernel_rfl) (by rfl) (by kernel_rfl) (run_store_row 38 (.tmp 14) (.tmp 33) rfl _ rfl rfl HA.out.1 iqt) ?_
     (try simp only [Act.put, nA, nB, nC])
     refine wpAnyM_done (by kernel_rfl) ?_ _
     (go_wp2_with fail; go_meet; exact ⟨_, rfl, Lib.hid (yw_put HS.out HA.out U)⟩)
   ·go_simp; have HA := Lib.hid (ya_new HS.out); have HU := Lib.hid (jp_down HS.out ((Below.refl _ _).alloc (Nat.le_refl _) (.cells #[.int .i64 0, .int .i64 0, .int .i64 0, .int .i64 0] 38))); clear HS; have HS := HU; clear HU
    clear hHeld
    refine hK.out _ _ ?_ (fun hHeld => ?_)
    ·exact ⟨HS.out.1.s, HS.out.2.1⟩
    clear hK K
    (try simp only [Act.put, nA, nB, nC])
    refine wpAnyM_oneS 7 rfl (by kernel_rfl) (fun K hK => ?_)
    go_simp
    (rw [EL.out]); (refine (qmul_any c _ Y KE _ (HS.out.1.upd.cellc HC.out) ((HS.out.1.upd.frozen hcb).trans HF.out)).mono ?_); (rw [NM.out]); rintro e w5 ⟨rfl, hu⟩; have hlm := HS.out.1.lt; have hlt := HS.out.2.2; have HU := Lib.hid (jp_upd HS.out hcb hu); clear HS; have HS := HU; clear HU; (try (have HA2 := Lib.hid (And.intro (HA.out.1.upd hu (by have := HA.out.2; omega)) HA.out.2); clear HA; have HA := HA2; clear HA2)); clear hu hlm hlt
    (try dsimp only)
    (try simp only [Act.put, nA, nB, nC])
    clear hHeld
    refine hK.out _ _ ?_ (fun hHeld => ?_)
    ·exact ⟨HS.out.1.s, HS.out.2.1⟩
    clear hK K
    (try simp only [Act.put, nA, nB, nC])
    refine wpAnyM_oneS 8 rfl (by kernel_rfl) (fun K hK => ?_)
    go_simp
    (refine (qunit_any c _ M _ (HS.out.1.upd.cellc HC.out) ((HS.out.1.upd.frozen hcb).trans HF.out)).mono ?_); (rw [NU.out]); rintro e w6 ⟨rfl, hu⟩; have hlm := HS.out.1.lt; have hlt := HS.out.2.2; have HU := Lib.hid (jp_upd HS.out hcb hu); clear HS; have HS := HU; clear HU; (try (have HA2 := Lib.hid (And.intro (HA.out.1.upd hu (by have := HA.out.2; omega)) HA.out.2); clear HA; have HA := HA2; clear HA2)); clear hu hlm hlt
    (try dsimp only)
    (try simp only [Act.put, nA, nB, nC])
    clear hHeld
    refine hK.out _ _ ?_ (fun hHeld => ?_)
    ·exact ⟨HS.out.1.s, HS.out.2.1⟩
    clear hK K
    (try simp only [Act.put, nA, nB, nC])
    refine wpAnyM_doneL 10 rfl (by kernel_rfl) (by rfl) (by kernel_rfl) (run_store_row 38 (.tmp 14) (.tmp 33) rfl _ rfl rfl HA.out.1 iqt) ?_
    (try simp only [Act.put, nA, nB, nC])
    refine wpAnyM_done (by kernel_rfl) ?_ _
    (go_wp2_with fail; go_meet; exact ⟨_, rfl, Lib.hid (yw_put HS.out HA.out U)⟩)
  ·go_simp; have HA := Lib.hid (ya_new HS.out); have HU := Lib.hid (jp_down HS.out ((Below.refl _ _).alloc (Nat.le_refl _) (.cells #[.int .i64 0, .int .i64 0, .int .i64 0, .int .i64 0] 38))); clear HS; have HS := HU; clear HU
   clear hHeld
   refine hK.out _ _ ?_ (fun hHeld => ?_)
   ·exact ⟨HS.out.1.s, HS.out.2.1⟩
   clear hK K
   (try simp only [Act.put, nA, nB, nC])
   refine wpAnyM_oneS 6 rfl (by kernel_rfl) (fun K hK => ?_)
   go_simp
   (refine (att_any KE _).mono ?_); rintro e w4 ⟨rfl, hb⟩; have HU := Lib.hid (jp_down HS.out hb); clear HS; have HS := HU; clear HU; (try (have HA2 := Lib.hid (And.intro (HA.out.1.below hb) HA.out.2); clear HA; have HA := HA2; clear HA2)); clear hb
   (try dsimp only)
   (try simp only [Act.put, nA, nB, nC])
   clear hHeld
   refine hK.out _ _ ?_ (fun hHeld => ?_)
   ·exact ⟨HS.out.1.s, HS.out.2.1⟩
   clear hK K
   (try simp only [Act.put, nA, nB, nC])
   refine wpAnyM_oneS 7 rfl (by kernel_rfl) (fun K hK => ?_)
   go_simp
   (rw [EL.out]); (refine (qmul_any c _ Y KE _ (HS.out.1.upd.cellc HC.out) ((HS.out.1.upd.frozen hcb).trans HF.out)).mono ?_); (rw [NM.out]); rintro e w5 ⟨rfl, hu⟩; have hlm := HS.out.1.lt; have hlt := HS.out.2.2; have HU := Lib.hid (jp_upd HS.out hcb hu); clear HS; have HS := HU; clear HU; (try (have HA2 := Lib.hid (And.intro (HA.out.1.upd hu (by have := HA.out.2; omega)) HA.out.2); clear HA; have HA := HA2; clear HA2)); clear hu hlm hlt
   (try dsimp only)
   (try simp only [Act.put, nA, nB, nC])
   clear hHeld
   refine hK.out _ _ ?_ (fun hHeld => ?_)
   ·exact ⟨HS.out.1.s, HS.out.2.1⟩
   clear hK K
   (try simp only [Act.put, nA, nB, nC])
   refine wpAnyM_oneS 8 rfl (by kernel_rfl) (fun K hK => ?_)
   go_simp
   (refine (qunit_any c _ M _ (HS.out.1.upd.cellc HC.out) ((HS.out.1.upd.frozen hcb).trans HF.out)).mono ?_); (rw [NU.out]); rintro e w6 ⟨rfl, hu⟩; have hlm := HS.out.1.lt; have hlt := HS.out.2.2; have HU := Lib.hid (jp_upd HS.out hcb hu); clear HS; have HS := HU; clear HU; (try (have HA2 := Lib.hid (And.intro (HA.out.1.upd hu (by have := HA.out.2; omega)) HA.out.2); clear HA; have HA := HA2; clear HA2)); clear hu hlm hlt
   (try dsimp only)
   (try simp only [Act.put, nA, nB, nC])
   clear hHeld
   refine hK.out _ _ ?_ (fun hHeld => ?_)
   ·exact ⟨HS.out.1.s, HS.out.2.1⟩
   clear hK K
   (try simp only [Act.put, nA, nB, nC])
   refine wpAnyM_doneL 10 rfl (by kernel_rfl) (by rfl) (by kernel_rfl) (run_store_row 38 (.tmp 14) (.tmp 33) rfl _ rfl rfl HA.out.1 iqt) ?_
   (try simp only [Act.put, nA, nB, nC])
   refine wpAnyM_done (by kernel_rfl) ?_ _
   (go_wp2_with fail; go_meet; exact ⟨_, rfl, Lib.hid (yw_put HS.out HA.out U)⟩)
 case rest =>
 obtain ⟨qb, rfl, HB⟩ := hcut
 clear HS
 go_upto_region 5 with fail
 have HS := Lib.hid HB.out.drew
 clear HB
 refine wp_region_M (fun w' => Blk w' w.heap.size 23 24 KE ∧ Blk w' (w.heap.size + 1) 26 300 P ∧ Blk w' tb 42 11 TD) 16 (by kernel_rfl) ?_ (fun hHeld => ?_)
 ·first | exact ⟨HS.out.j.s, HS.out.j.p, HS.out.t⟩ | exact jp_k0 HS.out.j HS.out.t HS.out.lt.1 _ | exact jp_k1 HS.out.j HS.out.t HS.out.lt.1 _ _
 refine tk 0 ?_
 (try simp only [Act.put, nA, nB, nC])
 refine tl 1 (v := ?_) ?_ ?_
 rotate_left
 ·(intro wx hSw; refine Eq.trans (run_load_row 23 (.tmp 6) (by rfl) (w.heap.size) (by rfl) _ _ _ _ (hSw.1) Tryz.underlying23 rfl (ist.trans (by rw [arrv_size]))) ?_; with_reducible rfl)
 (try simp only [Act.put, nA, nB, nC])
 refine tl 2 (v := ?_) ?_ ?_
 rotate_left
 ·(intro wx hSw; refine Eq.trans (run_slice_q (.tmp 14) (by rfl) qb 0 (by rfl)) ?_; with_reducible rfl)
 (try simp only [Act.put, nA, nB, nC])
 refine tk 5 ?_
 (try simp only [Act.put, nA, nB, nC])
 refine tl 6 (v := ?_) ?_ ?_
 rotate_left
 ·(intro wx hSw; refine Eq.trans (run_load_row 26 (.tmp 7) (by rfl) (w.heap.size + 1) (by rfl) _ _ _ _ (hSw.2.1) Tryz.underlying26 rfl (icov.trans (by rw [arrv_size]))) ?_; with_reducible rfl)
 (try simp only [Act.put, nA, nB, nC])
 refine tk 7 ?_
 (try simp only [Act.put, nA, nB, nC])
 refine tk 8 ?_
 (try simp only [Act.put, nA, nB, nC])
 refine tk 9 ?_
 (try simp only [Act.put, nA, nB, nC])
 refine tk 10 ?_
 (try simp only [Act.put, nA, nB, nC])
 refine tl 13 (v := ?_) ?_ ?_
 rotate_left
 ·(intro wx hSw; refine Eq.trans (run_load_row 42 (.tmp 13) (by rfl) (tb) (by rfl) _ _ _ _ (hSw.2.2) Tryz.underlying42 rfl (itd.trans (by rw [arrv_size]))) ?_; with_reducible rfl)
 (try simp only [Act.put, nA, nB, nC])
 refine wpAnyM_twoS 3 11 rfl rfl (by kernel_rfl) (fun K hK => ?_) (fun K hK => ?_)
 ·go_simp
  (refine (swith_any KE 0 _ 4 4 U _ (by decide) (by decide) (by decide) (Slc.of_blk HS.out.q)).mono ?_); (rw [NV.out]); rintro e w7 ⟨rfl, hb⟩; have HU := Lib.hid (HS.out.down hb); clear HS; have HS := HU; clear HU; (try (have HA2 := Lib.hid (And.intro (HL.out.1.below hb) HL.out.2); clear HL; have HL := HA2; clear HA2)); clear hb
  (try dsimp only)
  (try simp only [Act.put, nA, nB, nC])
  clear hHeld
  refine hK.out _ _ ?_ (fun hHeld => ?_)
  ·first | exact ⟨HS.out.j.s, HS.out.j.p, HS.out.t⟩ | exact jp_k0 HS.out.j HS.out.t HS.out.lt.1 _ | exact jp_k1 HS.out.j HS.out.t HS.out.lt.1 _ _
  clear hK K
  (try simp only [Act.put, nA, nB, nC])
  refine wpAnyM_twoS 4 11 rfl rfl (by kernel_rfl) (fun K hK => ?_) (fun K hK => ?_)
  ·go_simp
   (refine (keep_any c _ V _ (HS.out.j.upd.cellc HC.out) ((HS.out.j.upd.frozen hcb).trans HF.out)).mono ?_); rintro e w8 ⟨rfl, hu⟩; have HU := Lib.hid (HS.out.upd' hcb hu); clear HS; have HS := HU; clear HU; (try (have HA2 := Lib.hid (And.intro (HL.out.1.upd hu (by have := HL.out.2; omega)) HL.out.2); clear HL; have HL := HA2; clear HA2)); clear hu
   (try dsimp only)
   (try simp only [Act.put, nA, nB, nC])
   clear hHeld
   refine hK.out _ _ ?_ (fun hHeld => ?_)
   ·first | exact ⟨HS.out.j.s, HS.out.j.p, HS.out.t⟩ | exact jp_k0 HS.out.j HS.out.t HS.out.lt.1 _ | exact jp_k1 HS.out.j HS.out.t HS.out.lt.1 _ _
   clear hK K
   (try simp only [Act.put, nA, nB, nC])
   refine wpAnyM_oneS 11 rfl (by kernel_rfl) (fun K hK => ?_)
   go_simp; have HL := Lib.hid (yw_lst HS.out v); have HU := Lib.hid (HS.out.down ((Below.refl _ _).alloc (Nat.le_refl _) (.cells #[.int .i64 v, .int .i64 v, .int .i64 v, .int .i64 v] 2))); clear HS; have HS := HU; clear HU
   clear hHeld
   refine hK.out _ _ ?_ (fun hHeld => ?_)
   ·first | exact ⟨HS.out.j.s, HS.out.j.p, HS.out.t⟩ | exact jp_k0 HS.out.j HS.out.t HS.out.lt.1 _ | exact jp_k1 HS.out.j HS.out.t HS.out.lt.1 _ _
   clear hK K
   (try simp only [Act.put, nA, nB, nC])
   refine wpAnyM_oneS 12 rfl (by kernel_rfl) (fun K hK => ?_)
   go_simp
   have RC := reset_any c _ P 0 _ 4 4 (fun _ => v) _ (HS.out.j.upd.cellc HC.out) ((HS.out.j.upd.frozen hcb).trans HF.out) (Slc.of_blk HL.out.1) (by decide) (by decide); (refine RC.mono ?_); rintro e w9 ⟨rfl, hu⟩; clear RC HL; have HU := Lib.hid (HS.out.upd' hcb hu); clear HS hu; have HS := HU; clear HU; have HR := Lib.hid (jp_all HS.out.j (keepF V) (stepF P (rtF 0 4) (rtQ 0 (fun _ => v) 4)) TD)
   (try dsimp only)
   (try simp only [Act.put, nA, nB, nC])
   clear hHeld
   refine hK.out _ _ ?_ (fun hHeld => ?_)
   ·first | exact ⟨HS.out.j.s, HS.out.j.p, HS.out.t⟩ | exact jp_k0 HS.out.j HS.out.t HS.out.lt.1 _ | exact jp_k1 HS.out.j HS.out.t HS.out.lt.1 _ _
   clear hK K
   (try simp only [Act.put, nA, nB, nC])
   clear hHeld
   refine wpAnyM_doneN 14 rfl (by kernel_rfl) (by rfl) (run_store_row 23 (.tmp 10) (.tmp 38) rfl _ rfl rfl HS.out.j.r0 ist) ?_ (fun hHeld => ?_)
   ·first | exact ⟨HS.out.j.s, HS.out.j.p, HS.out.t⟩ | exact jp_k0 HS.out.j HS.out.t HS.out.lt.1 _ | exact jp_k1 HS.out.j HS.out.t HS.out.lt.1 _ _
   (try simp only [Act.put, nA, nB, nC])
   clear hHeld
   refine wpAnyM_doneN 15 rfl (by kernel_rfl) (by rfl) (run_store_row 26 (.tmp 11) (.tmp 46) rfl _ rfl rfl HR.out.1 icov) ?_ (fun hHeld => ?_)
   ·first | exact ⟨HS.out.j.s, HS.out.j.p, HS.out.t⟩ | exact jp_k0 HS.out.j HS.out.t HS.out.lt.1 _ | exact jp_k1 HS.out.j HS.out.t HS.out.lt.1 _ _
   (try simp only [Act.put, nA, nB, nC])
   refine wpAnyM_doneL 16 rfl (by kernel_rfl) (by rfl) (by kernel_rfl) (run_store_row 42 (.tmp 12) (.tmp 47) rfl _ rfl rfl HR.out.2.1 itd) ?_
   (try simp only [Act.put, nA, nB, nC])
   refine wpAnyM_done (by kernel_rfl) ?_ _
   (go_wp2_with fail; exact bodyPost_ret_by (results_rows3 Tryz.results6 _ _ (w.heap.size + 1 + 1) (w.heap.size + 1 + 1 + 1) (w.heap.size + 1 + 1 + 1 + 1) 23 26 42 (arrv 24 (keepF V)) (arrv 300 (stepF P (rtF 0 4) (rtQ 0 (fun _ => v) 4))) (arrv 11 TD) (0, 0) (0, 0) (0, 0) _ _ _ rfl HR.out.2.2.1 Tryz.underlying23 rfl (ist.trans (by rw [arrv_size])) rfl HR.out.2.2.2.1 Tryz.underlying26 rfl (icov.trans (by rw [arrv_size])) rfl HR.out.2.2.2.2.1 Tryz.underlying42 rfl (itd.trans (by rw [arrv_size]))) rfl ⟨by rw [HE.out.1, HE.out.2.1], by rw [HE.out.2.2]; exact HR.out.2.2.2.2.2⟩)
  ·go_simp; have HL := Lib.hid (yw_lst HS.out v); have HU := Lib.hid (HS.out.down ((Below.refl _ _).alloc (Nat.le_refl _) (.cells #[.int .i64 v, .int .i64 v, .int .i64 v, .int .i64 v] 2))); clear HS; have HS := HU; clear HU
   clear hHeld
   refine hK.out _ _ ?_ (fun hHeld => ?_)
   ·first | exact ⟨HS.out.j.s, HS.out.j.p, HS.out.t⟩ | exact jp_k0 HS.out.j HS.out.t HS.out.lt.1 _ | exact jp_k1 HS.out.j HS.out.t HS.out.lt.1 _ _
   clear hK K
   (try simp only [Act.put, nA, nB, nC])
   refine wpAnyM_oneS 4 rfl (by kernel_rfl) (fun K hK => ?_)
   go_simp
   (refine (keep_any c _ V _ (HS.out.j.upd.cellc HC.out) ((HS.out.j.upd.frozen hcb).trans HF.out)).mono ?_); rintro e w8 ⟨rfl, hu⟩; have HU := Lib.hid (HS.out.upd' hcb hu); clear HS; have HS := HU; clear HU; (try (have HA2 := Lib.hid (And.intro (HL.out.1.upd hu (by have := HL.out.2; omega)) HL.out.2); clear HL; have HL := HA2; clear HA2)); clear hu
   (try dsimp only)
   (try simp only [Act.put, nA, nB, nC])
   clear hHeld
   refine hK.out _ _ ?_ (fun hHeld => ?_)
   ·first | exact ⟨HS.out.j.s, HS.out.j.p, HS.out.t⟩ | exact jp_k0 HS.out.j HS.out.t HS.out.lt.1 _ | exact jp_k1 HS.out.j HS.out.t HS.out.lt.1 _ _
   clear hK K
   (try simp only [Act.put, nA, nB, nC])
   refine wpAnyM_oneS 12 rfl (by kernel_rfl) (fun K hK => ?_)
   go_simp
   have RC := reset_any c _ P 0 _ 4 4 (fun _ => v) _ (HS.out.j.upd.cellc HC.out) ((HS.out.j.upd.frozen hcb).trans HF.out) (Slc.of_blk HL.out.1) (by decide) (by decide); (refine RC.mono ?_); rintro e w9 ⟨rfl, hu⟩; clear RC HL; have HU := Lib.hid (HS.out.upd' hcb hu); clear HS hu; have HS := HU; clear HU; have HR := Lib.hid (jp_all HS.out.j (keepF V) (stepF P (rtF 0 4) (rtQ 0 (fun _ => v) 4)) TD)
   (try dsimp only)
   (try simp only [Act.put, nA, nB, nC])
   clear hHeld
   refine hK.out _ _ ?_ (fun hHeld => ?_)
   ·first | exact ⟨HS.out.j.s, HS.out.j.p, HS.out.t⟩ | exact jp_k0 HS.out.j HS.out.t HS.out.lt.1 _ | exact jp_k1 HS.out.j HS.out.t HS.out.lt.1 _ _
   clear hK K
   (try simp only [Act.put, nA, nB, nC])
   clear hHeld
   refine wpAnyM_doneN 14 rfl (by kernel_rfl) (by rfl) (run_store_row 23 (.tmp 10) (.tmp 38) rfl _ rfl rfl HS.out.j.r0 ist) ?_ (fun hHeld => ?_)
   ·first | exact ⟨HS.out.j.s, HS.out.j.p, HS.out.t⟩ | exact jp_k0 HS.out.j HS.out.t HS.out.lt.1 _ | exact jp_k1 HS.out.j HS.out.t HS.out.lt.1 _ _
   (try simp only [Act.put, nA, nB, nC])
   clear hHeld
   refine wpAnyM_doneN 15 rfl (by kernel_rfl) (by rfl) (run_store_row 26 (.tmp 11) (.tmp 46) rfl _ rfl rfl HR.out.1 icov) ?_ (fun hHeld => ?_)
   ·first | exact ⟨HS.out.j.s, HS.out.j.p, HS.out.t⟩ | exact jp_k0 HS.out.j HS.out.t HS.out.lt.1 _ | exact jp_k1 HS.out.j HS.out.t HS.out.lt.1 _ _
   (try simp only [Act.put, nA, nB, nC])
   refine wpAnyM_doneL 16 rfl (by kernel_rfl) (by rfl) (by kernel_rfl) (run_store_row 42 (.tmp 12) (.tmp 47) rfl _ rfl rfl HR.out.2.1 itd) ?_
   (try simp only [Act.put, nA, nB, nC])
   refine wpAnyM_done (by kernel_rfl) ?_ _
   (go_wp2_with fail; exact bodyPost_ret_by (results_rows3 Tryz.results6 _ _ (w.heap.size + 1 + 1) (w.heap.size + 1 + 1 + 1) (w.heap.size + 1 + 1 + 1 + 1) 23 26 42 (arrv 24 (keepF V)) (arrv 300 (stepF P (rtF 0 4) (rtQ 0 (fun _ => v) 4))) (arrv 11 TD) (0, 0) (0, 0) (0, 0) _ _ _ rfl HR.out.2.2.1 Tryz.underlying23 rfl (ist.trans (by rw [arrv_size])) rfl HR.out.2.2.2.1 Tryz.underlying26 rfl (icov.trans (by rw [arrv_size])) rfl HR.out.2.2.2.2.1 Tryz.underlying42 rfl (itd.trans (by rw [arrv_size]))) rfl ⟨by rw [HE.out.1, HE.out.2.1], by rw [HE.out.2.2]; exact HR.out.2.2.2.2.2⟩)
 ·go_simp; have HL := Lib.hid (yw_lst HS.out v); have HU := Lib.hid (HS.out.down ((Below.refl _ _).alloc (Nat.le_refl _) (.cells #[.int .i64 v, .int .i64 v, .int .i64 v, .int .i64 v] 2))); clear HS; have HS := HU; clear HU
  clear hHeld
  refine hK.out _ _ ?_ (fun hHeld => ?_)
  ·first | exact ⟨HS.out.j.s, HS.out.j.p, HS.out.t⟩ | exact jp_k0 HS.out.j HS.out.t HS.out.lt.1 _ | exact jp_k1 HS.out.j HS.out.t HS.out.lt.1 _ _
  clear hK K
  (try simp only [Act.put, nA, nB, nC])
  refine wpAnyM_oneS 3 rfl (by kernel_rfl) (fun K hK => ?_)
  go_simp
  (refine (swith_any KE 0 _ 4 4 U _ (by decide) (by decide) (by decide) (Slc.of_blk HS.out.q)).mono ?_); (rw [NV.out]); rintro e w7 ⟨rfl, hb⟩; have HU := Lib.hid (HS.out.down hb); clear HS; have HS := HU; clear HU; (try (have HA2 := Lib.hid (And.intro (HL.out.1.below hb) HL.out.2); clear HL; have HL := HA2; clear HA2)); clear hb
  (try dsimp only)
  (try simp only [Act.put, nA, nB, nC])
  clear hHeld
  refine hK.out _ _ ?_ (fun hHeld => ?_)
  ·first | exact ⟨HS.out.j.s, HS.out.j.p, HS.out.t⟩ | exact jp_k0 HS.out.j HS.out.t HS.out.lt.1 _ | exact jp_k1 HS.out.j HS.out.t HS.out.lt.1 _ _
  clear hK K
  (try simp only [Act.put, nA, nB, nC])
  refine wpAnyM_oneS 4 rfl (by kernel_rfl) (fun K hK => ?_)
  go_simp
  (refine (keep_any c _ V _ (HS.out.j.upd.cellc HC.out) ((HS.out.j.upd.frozen hcb).trans HF.out)).mono ?_); rintro e w8 ⟨rfl, hu⟩; have HU := Lib.hid (HS.out.upd' hcb hu); clear HS; have HS := HU; clear HU; (try (have HA2 := Lib.hid (And.intro (HL.out.1.upd hu (by have := HL.out.2; omega)) HL.out.2); clear HL; have HL := HA2; clear HA2)); clear hu
  (try dsimp only)
  (try simp only [Act.put, nA, nB, nC])
  clear hHeld
  refine hK.out _ _ ?_ (fun hHeld => ?_)
  ·first | exact ⟨HS.out.j.s, HS.out.j.p, HS.out.t⟩ | exact jp_k0 HS.out.j HS.out.t HS.out.lt.1 _ | exact jp_k1 HS.out.j HS.out.t HS.out.lt.1 _ _
  clear hK K
  (try simp only [Act.put, nA, nB, nC])
  refine wpAnyM_oneS 12 rfl (by kernel_rfl) (fun K hK => ?_)
  go_simp
  have RC := reset_any c _ P 0 _ 4 4 (fun _ => v) _ (HS.out.j.upd.cellc HC.out) ((HS.out.j.upd.frozen hcb).trans HF.out) (Slc.of_blk HL.out.1) (by decide) (by decide); (refine RC.mono ?_); rintro e w9 ⟨rfl, hu⟩; clear RC HL; have HU := Lib.hid (HS.out.upd' hcb hu); clear HS hu; have HS := HU; clear HU; have HR := Lib.hid (jp_all HS.out.j (keepF V) (stepF P (rtF 0 4) (rtQ 0 (fun _ => v) 4)) TD)
  (try dsimp only)
  (try simp only [Act.put, nA, nB, nC])
  clear hHeld
  refine hK.out _ _ ?_ (fun hHeld => ?_)
  ·first | exact ⟨HS.out.j.s, HS.out.j.p, HS.out.t⟩ | exact jp_k0 HS.out.j HS.out.t HS.out.lt.1 _ | exact jp_k1 HS.out.j HS.out.t HS.out.lt.1 _ _
  clear hK K
  (try simp only [Act.put, nA, nB, nC])
  clear hHeld
  refine wpAnyM_doneN 14 rfl (by kernel_rfl) (by rfl) (run_store_row 23 (.tmp 10) (.tmp 38) rfl _ rfl rfl HS.out.j.r0 ist) ?_ (fun hHeld => ?_)
  ·first | exact ⟨HS.out.j.s, HS.out.j.p, HS.out.t⟩ | exact jp_k0 HS.out.j HS.out.t HS.out.lt.1 _ | exact jp_k1 HS.out.j HS.out.t HS.out.lt.1 _ _
  (try simp only [Act.put, nA, nB, nC])
  clear hHeld
  refine wpAnyM_doneN 15 rfl (by kernel_rfl) (by rfl) (run_store_row 26 (.tmp 11) (.tmp 46) rfl _ rfl rfl HR.out.1 icov) ?_ (fun hHeld => ?_)
  ·first | exact ⟨HS.out.j.s, HS.out.j.p, HS.out.t⟩ | exact jp_k0 HS.out.j HS.out.t HS.out.lt.1 _ | exact jp_k1 HS.out.j HS.out.t HS.out.lt.1 _ _
  (try simp only [Act.put, nA, nB, nC])
  refine wpAnyM_doneL 16 rfl (by kernel_rfl) (by rfl) (by kernel_rfl) (run_store_row 42 (.tmp 12) (.tmp 47) rfl _ rfl rfl HR.out.2.1 itd) ?_
  (try simp only [Act.put, nA, nB, nC])
  refine wpAnyM_done (by kernel_rfl) ?_ _
  (go_wp2_with fail; exact bodyPost_ret_by (results_rows3 Tryz.results6 _ _ (w.heap.size + 1 + 1) (w.heap.size + 1 + 1 + 1) (w.heap.size + 1 + 1 + 1 + 1) 23 26 42 (arrv 24 (keepF V)) (arrv 300 (stepF P (rtF 0 4) (rtQ 0 (fun _ => v) 4))) (arrv 11 TD) (0, 0) (0, 0) (0, 0) _ _ _ rfl HR.out.2.2.1 Tryz.underlying23 rfl (ist.trans (by rw [arrv_size])) rfl HR.out.2.2.2.1 Tryz.underlying26 rfl (icov.trans (by rw [arrv_size])) rfl HR.out.2.2.2.2.1 Tryz.underlying42 rfl (itd.trans (by rw [arrv_size]))) rfl ⟨by rw [HE.out.1, HE.out.2.1], by rw [HE.out.2.2]; exact HR.out.2.2.2.2.2⟩)
end Go.Proofs.YtgfklheepkgedaaGreat
