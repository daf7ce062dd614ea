/- The walk of ResetTwice. -/
import Derived.Test.YtgfklheepkgedaaS01
import Derived.Test.YtgfklheepkgedaaTwP
namespace Go.Proofs.Ytgfklheepkgedaa
open Go.RowKit
set_option maxRecDepth 100000
open Go in
theorem run_build_td0 {o : Oper} {ev : Operand → Value} {w : World} (ho : o.op = .build 38 #[]) : (execOp ev o).run Try.prog w = .ok (.value (.agg (arrv 11 (fun _ => 0)))) w := by
  unfold execOp
  simp only [ho, List.map_toArray, List.map_nil]
  kernel_rfl
/-- The law's own blocks: the estimate, the factors, what is asked; the flag. -/
structure LwR (bc : Nat) (h : Bool) (K P T : Nat → Int) (w wr : World) : Prop where
  below : Below w.heap.size w wr
  fl : Flg wr bc h
  s : Blk wr w.heap.size 27 24 K
  p : Blk wr (w.heap.size + 1) 30 300 P
  t : Blk wr (w.heap.size + 1 + 1) 34 3 T
  lt : w.heap.size + 1 + 1 < bc
section
variable {bc : Nat} {h h' : Bool} {K P T : Nat → Int} {w wr w' : World}
theorem LwR.down (s : LwR bc h K P T w wr) (u : Below wr.heap.size wr w') : LwR bc h K P T w w' := ⟨s.below.trans (u.mono s.below.size), s.fl.below u, s.s.below u, s.p.below u, s.t.below u, s.lt⟩
theorem LwR.upd' (s : LwR bc h K P T w wr) (u : Upd ⟨bc, 0, none⟩ h' wr w') : LwR bc h' K P T w w' := by
  have := s.lt
  exact ⟨own_upd s.below (by simp only; omega) u, s.fl.hit u, s.s.upd u (by simp only; omega), s.p.upd u (by simp only; omega), s.t.upd u (by simp only; omega), s.lt⟩
theorem LwR.rowS (s : LwR bc h K P T w wr) (F : Nat → Int) : LwR bc h F P T w (wr.setRow w.heap.size (arrv 24 F)) := by
  have := s.lt
  exact ⟨below_row s.below (Nat.le_refl _) _, s.fl.row _ (by omega), s.s.setRow F, s.p.setRow_other _ (by omega), s.t.setRow_other _ (by omega), s.lt⟩
theorem LwR.far (s : LwR bc h K P T w wr) {b : Nat} (hb : bc < b) (cs : Array Value) : LwR bc h K P T w (wr.setRow b cs) := by
  have := s.lt
  exact ⟨below_row s.below (by omega) _, s.fl.row _ (by omega), s.s.setRow_other _ (by omega), s.p.setRow_other _ (by omega), s.t.setRow_other _ (by omega), s.lt⟩
end
theorem lw_start (K P T : Nat → Int) (w w1 : World) (hb : Below (((w.alloc (.cells (arrv 24 K) 27)).alloc (.cells (arrv 300 P) 30)).alloc (.cells (arrv 3 T) 34)).heap.size (((w.alloc (.cells (arrv 24 K) 27)).alloc (.cells (arrv 300 P) 30)).alloc (.cells (arrv 3 T) 34)) w1) :
    LwR w1.heap.size false K P T w (w1.alloc (.cells #[.bool false] 25)) := by
  have bl : Below w.heap.size w (((w.alloc (.cells (arrv 24 K) 27)).alloc (.cells (arrv 300 P) 30)).alloc (.cells (arrv 3 T) 34)) := by (repeat (first | with_reducible exact Below.refl _ _ | with_reducible apply Below.drew | (with_reducible refine below_drewN ?_ _) | (with_reducible refine Below.alloc ?_ (by (try simp) <;> omega) _) | (with_reducible refine Below.setCell ?_ (by (try simp) <;> omega) _)))
  have z := hb.size
  simp at z
  have b2 : Below w.heap.size w w1 := bl.trans (hb.mono bl.size)
  exact ⟨b2.alloc b2.size _, Flg.new _ _, ((((Blk.new w _ 24 _).alloc _).alloc _).below hb).alloc _, (((Blk.new1 w _ _ 300 _).alloc _).below hb).alloc _, ((blk_new2 w _ _ _ 3 _).below hb).alloc _, by omega⟩
/-- .. and the two estimates, and what is told. -/
structure TdR (bc ab bb db : Nat) (h : Bool) (K P T A B D : Nat → Int) (w wr : World) : Prop where
  l : LwR bc h K P T w wr
  a : Blk wr ab 27 24 A
  b : Blk wr bb 27 24 B
  d : Blk wr db 38 11 D
  lt : bc < ab ∧ bc < bb ∧ ab ≠ bb ∧ ab < db ∧ bb < db
section
variable {bc ab bb db : Nat} {h h' : Bool} {K P T A B D : Nat → Int} {w wr w' : World}
theorem TdR.down (s : TdR bc ab bb db h K P T A B D w wr) (u : Below wr.heap.size wr w') : TdR bc ab bb db h K P T A B D w w' := ⟨s.l.down u, s.a.below u, s.b.below u, s.d.below u, s.lt⟩
theorem TdR.upd' (s : TdR bc ab bb db h K P T A B D w wr) (u : Upd ⟨bc, 0, none⟩ h' wr w') : TdR bc ab bb db h' K P T A B D w w' := by
  have := s.lt
  exact ⟨s.l.upd' u, s.a.upd u (by simp only; omega), s.b.upd u (by simp only; omega), s.d.upd u (by simp only; omega), s.lt⟩
theorem TdR.rowA (s : TdR bc ab bb db h K P T A B D w wr) (F : Nat → Int) : TdR bc ab bb db h K P T F B D w (wr.setRow ab (arrv 24 F)) := by
  have := s.lt
  exact ⟨s.l.far (by omega) _, s.a.setRow F, s.b.setRow_other _ (by omega), s.d.setRow_other _ (by omega), s.lt⟩
theorem TdR.rowB (s : TdR bc ab bb db h K P T A B D w wr) (F : Nat → Int) : TdR bc ab bb db h K P T A F D w (wr.setRow bb (arrv 24 F)) := by
  have := s.lt
  exact ⟨s.l.far (by omega) _, s.a.setRow_other _ (by omega), s.b.setRow F, s.d.setRow_other _ (by omega), s.lt⟩
theorem tw_new (s : LwR bc h K P T w wr) (b : Nat) (hb : wr.heap.size = b) : Blk (wr.alloc (.cells #[.int .i64 0, .int .i64 0, .int .i64 0, .int .i64 0, .int .i64 0, .int .i64 0, .int .i64 0, .int .i64 0, .int .i64 0, .int .i64 0, .int .i64 0, .int .i64 0, .int .i64 0, .int .i64 0, .int .i64 0, .int .i64 0, .int .i64 0, .int .i64 0, .int .i64 0, .int .i64 0, .int .i64 0, .int .i64 0, .int .i64 0, .int .i64 0] 27)) b 27 24 (fun _ => 0) ∧ bc < b := by
  subst hb
  rw [zvec24]
  exact ⟨Blk.new _ _ _ _, s.fl.lt⟩
end
end Go.Proofs.Ytgfklheepkgedaa
