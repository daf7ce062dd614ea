/- The reference's Step: what it keeps, number by number. -/
import Derived.Test.YtokcnjadknonmaaRs1
import Derived.Test.YtokcnjadknonmaaQ05
import Derived.Test.YtokcnjadknonmaaQ06
namespace Go.Proofs.Ytokcnjadknonmaa
open Go.RowKit
set_option maxRecDepth 100000
/-- The blocks of the call. -/
structure RsA (c : Addr) (h : Bool) (P Q : Nat → Int) (w wr : World) : Prop where
  upd : Upd c h w wr
  pB : Blk wr w.heap.size 25 300 P
  qB : Blk wr (w.heap.size + 1) 23 24 Q
  rB : Blk wr (w.heap.size + 1 + 1) 25 300 (fun _ => 0)
theorem RsA.upd' {c : Addr} {h h' : Bool} {P Q : Nat → Int} {w wr w' : World} (s : RsA c h P Q w wr) (hc : c.block < w.heap.size) (u : Upd c h' wr w') : RsA c h' P Q w w' :=
  ⟨s.upd.trans u, s.pB.upd u (by omega), s.qB.upd u (by omega), s.rB.upd u (by omega)⟩
theorem RsA.below {c : Addr} {h : Bool} {P Q : Nat → Int} {w wr w' : World} (s : RsA c h P Q w wr) (b : Below wr.heap.size wr w') : RsA c h P Q w w' :=
  ⟨s.upd.then b, s.pB.below b, s.qB.below b, s.rB.below b⟩
theorem RsA.other {c : Addr} {h : Bool} {P Q : Nat → Int} {w wr : World} (s : RsA c h P Q w wr) {b o : Nat} (hb : w.heap.size + 2 < b) (v : Value) : RsA c h P Q w (wr.setCell ⟨b, o, none⟩ v) :=
  ⟨s.upd.setCell (by simp; omega) _, s.pB.other (by simp; omega) _, s.qB.other (by simp; omega) _, s.rB.other (by simp; omega) _⟩
theorem RsA.far {c : Addr} {h : Bool} {P Q : Nat → Int} {w wr : World} (s : RsA c h P Q w wr) : w.heap.size + 2 < wr.heap.size := s.rB.lt
/-- cols: of columns below k all, of column k the first i. -/
def clS (P : Nat → Int) (k i : Nat) : Nat → Int := fun x => if x / 24 < k ∨ (x / 24 = k ∧ x % 24 < i) then colF P (x / 24) (x % 24) else 0
def qS (q : Nat → Int) (k : Nat) : Nat → Int := fun x => if x < k then qV (q x) else q x
/-- Of what is to be orthogonalised the rows below i, and of row i the first k. -/
def wS (P F : Nat → Int) (i k : Nat) : Nat → Int := fun x => if x / 48 < i then rowsW P F x else if x / 48 = i ∧ x % 48 < k then rwV P F i (x % 48) else 0
/-- The flags of a row. -/
def rrH (P F G : Nat → Int) (i : Nat) : Bool := orB (fun k => satH (F (i * 24 + k))) 24 || orB (fun k => rwB P G i k) 24
theorem iy48 : (Try.prog.info? 62).map (·.size) = some 48 := by kernel_rfl
theorem zmat2 : Try.zeroCells26 = arrv 576 (fun _ => 0) := by kernel_rfl
structure RsB (c : Addr) (h : Bool) (P Q : Nat → Int) (cb wb eb : Nat) (C W E : Nat → Int) (w wr : World) : Prop where
  a : RsA c h P Q w wr
  cB : Blk wr cb 26 576 C
  wB : Blk wr wb 74 1152 W
  eB : Blk wr eb 62 48 E
  ord : w.heap.size + 2 < cb ∧ cb < wb ∧ wb < eb
theorem RsB.upd' {c : Addr} {h h' : Bool} {P Q : Nat → Int} {cb wb eb : Nat} {C W E : Nat → Int} {w wr w' : World} (s : RsB c h P Q cb wb eb C W E w wr) (hc : c.block < w.heap.size) (u : Upd c h' wr w') : RsB c h' P Q cb wb eb C W E w w' :=
  ⟨s.a.upd' hc u, s.cB.upd u (by have := s.ord; omega), s.wB.upd u (by have := s.ord; omega), s.eB.upd u (by have := s.ord; omega), s.ord⟩
theorem RsB.below {c : Addr} {h : Bool} {P Q : Nat → Int} {cb wb eb : Nat} {C W E : Nat → Int} {w wr w' : World} (s : RsB c h P Q cb wb eb C W E w wr) (b : Below wr.heap.size wr w') : RsB c h P Q cb wb eb C W E w w' :=
  ⟨s.a.below b, s.cB.below b, s.wB.below b, s.eB.below b, s.ord⟩
theorem RsB.other {c : Addr} {h : Bool} {P Q : Nat → Int} {cb wb eb : Nat} {C W E : Nat → Int} {w wr : World} (s : RsB c h P Q cb wb eb C W E w wr) {b o : Nat} (hb : eb < b) (v : Value) : RsB c h P Q cb wb eb C W E w (wr.setCell ⟨b, o, none⟩ v) :=
  ⟨s.a.other (by have := s.ord; omega) v, s.cB.other (by have := s.ord; simp; omega) _, s.wB.other (by have := s.ord; simp; omega) _, s.eB.other (by simp; omega) _, s.ord⟩
theorem RsB.setW {c : Addr} {h : Bool} {P Q : Nat → Int} {cb wb eb : Nat} {C W E : Nat → Int} {w wr : World} (s : RsB c h P Q cb wb eb C W E w wr) (o : Nat) (v : Int) : RsB c h P Q cb wb eb C (upd W o v) E w (wr.setCell ⟨wb, o, none⟩ (.int .i64 v)) :=
  ⟨s.a.other (by have := s.ord; omega) _, s.cB.other (by have := s.ord; simp; omega) _, s.wB.set _ _, s.eB.other (by have := s.ord; simp; omega) _, s.ord⟩
theorem RsB.setE {c : Addr} {h : Bool} {P Q : Nat → Int} {cb wb eb : Nat} {C W E : Nat → Int} {w wr : World} (s : RsB c h P Q cb wb eb C W E w wr) (o : Nat) (v : Int) : RsB c h P Q cb wb eb C W (upd E o v) w (wr.setCell ⟨eb, o, none⟩ (.int .i64 v)) :=
  ⟨s.a.other (by have := s.ord; omega) _, s.cB.other (by have := s.ord; simp; omega) _, s.wB.other (by have := s.ord; simp; omega) _, s.eB.set _ _, s.ord⟩
theorem RsB.cong {c : Addr} {h : Bool} {P Q : Nat → Int} {cb wb eb : Nat} {C W W' E E' : Nat → Int} {w wr : World} (s : RsB c h P Q cb wb eb C W E w wr) (hW : ∀ i, i < 1152 → W i = W' i) (hE : ∀ i, i < 48 → E i = E' i) : RsB c h P Q cb wb eb C W' E' w wr :=
  ⟨s.a, s.cB, s.wB.congr hW, s.eB.congr hE, s.ord⟩
/-- What holds while the reference's rows are eliminated. -/
structure StQ (c : Addr) (h : Bool) (eb wb ob : Nat) (E W O : Nat → Int) (w wr : World) : Prop where
  upd : Upd c h w wr
  eB : Blk wr eb 62 48 E
  wB : Blk wr wb 74 1152 W
  oB : Blk wr ob 25 300 O
  rB : Blk wr (w.heap.size + 1 + 1) 25 300 (fun _ => 0)
theorem StQ.upd' {c : Addr} {h h' : Bool} {eb wb ob : Nat} {E W O : Nat → Int} {w wr w' : World} (s : StQ c h eb wb ob E W O w wr) (hc : c.block < w.heap.size) (h1 : w.heap.size ≤ eb) (h2 : w.heap.size ≤ wb) (h3 : w.heap.size ≤ ob) (u : Upd c h' wr w') : StQ c h' eb wb ob E W O w w' :=
  ⟨s.upd.trans u, s.eB.upd u (by omega), s.wB.upd u (by omega), s.oB.upd u (by omega), s.rB.upd u (by omega)⟩
theorem StQ.below {c : Addr} {h : Bool} {eb wb ob : Nat} {E W O : Nat → Int} {w wr w' : World} (s : StQ c h eb wb ob E W O w wr) (b : Below wr.heap.size wr w') : StQ c h eb wb ob E W O w w' :=
  ⟨s.upd.then b, s.eB.below b, s.wB.below b, s.oB.below b, s.rB.below b⟩
theorem StQ.other {c : Addr} {h : Bool} {eb wb ob : Nat} {E W O : Nat → Int} {w wr : World} (s : StQ c h eb wb ob E W O w wr) {b o : Nat} (n0 : w.heap.size ≤ b) (n1 : b ≠ eb) (n2 : b ≠ wb) (n3 : b ≠ ob) (n4 : b ≠ w.heap.size + 1 + 1) (v : Value) : StQ c h eb wb ob E W O w (wr.setCell ⟨b, o, none⟩ v) :=
  ⟨s.upd.setCell n0 _, s.eB.other (by simp; omega) _, s.wB.other (by simp; omega) _, s.oB.other (by simp; omega) _, s.rB.other (by simp; omega) _⟩
end Go.Proofs.Ytokcnjadknonmaa
