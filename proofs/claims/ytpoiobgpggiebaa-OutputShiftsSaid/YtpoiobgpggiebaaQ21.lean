/- Contracts of the program's functions and plain laws, part 21: they hold for all arguments. -/
import Derived.Test.YtpoiobgpggiebaaQ20
import Derived.Test.YtpoiobgpggiebaaQ17
import Derived.Test.YtpoiobgpggiebaaQ18
import Derived.Test.YtpoiobgpggiebaaQ04
import Derived.Test.YtpoiobgpggiebaaQ15
import Derived.Test.YtpoiobgpggiebaaQ08
import Derived.Test.YtpoiobgpggiebaaQ06
import Derived.Deep.QuietTactic
import Derived.BigQuiet
/- What the laws of outputs keep: a flag, a predictor, rows and lists of outputs of their own. -/
namespace Go.Proofs.Ytpoiobgpggiebaa
open Go.RowKit
open Go
set_option maxRecDepth 100000
/-- A list of outputs that lies somewhere. -/
structure Sx where
  b : Nat
  n : Nat
  L : Nat → Nat → Int
def Sx.ok (s : Sx) (w : World) : Prop := s.b < w.heap.size ∧ ∀ i, i < s.n → ∀ j, j < 11 → w.cell? ⟨s.b, i * 11 + j, none⟩ = some (.int .i64 (s.L i j))
structure FiR (bc : Nat) (h : Bool) (pb : Nat) (z g : Int) (v : Value) (n : Nat) (L : Nat → Nat → Int) (E : List Lx) (S : List Sx) (w wr : World) : Prop where
  below : Below w.heap.size w wr
  fc : wr.cell? ⟨bc, 0, none⟩ = some (.bool h)
  ff : wr.frozen? ⟨bc, 0, none⟩ = false
  pd : PdR wr pb z g v n L
  ne : bc ≠ pb
  nv : ∀ k, v.ownBlock = some k → k ≠ bc
  lb : w.heap.size ≤ bc
  lp : w.heap.size ≤ pb
  lv : ∀ k, v.ownBlock = some k → w.heap.size ≤ k
  ex : ∀ e, e ∈ E → Blk wr e.b e.T e.n e.F ∧ w.heap.size ≤ e.b ∧ e.b ≠ bc ∧ e.b ≠ pb ∧ v.ownBlock ≠ some e.b
  sx : ∀ s, s ∈ S → s.ok wr ∧ w.heap.size ≤ s.b ∧ s.b ≠ bc ∧ s.b ≠ pb ∧ v.ownBlock ≠ some s.b
section
variable {bc pb : Nat} {h h' : Bool} {z g : Int} {v v' : Value} {n n' : Nat} {L L' : Nat → Nat → Int} {E : List Lx} {S : List Sx} {w wr w' : World}
theorem FiR.lc (s : FiR bc h pb z g v n L E S w wr) : bc < wr.heap.size := World.block_lt_of_cell? _ _ s.fc
theorem FiR.chg {X : Nat → Prop} (s : FiR bc h pb z g v n L E S w wr) (k : Chg X wr w') (hX : ∀ i, X i → i = pb ∨ i = bc ∨ v.ownBlock = some i) (fc : w'.cell? ⟨bc, 0, none⟩ = some (.bool h')) (ff : w'.frozen? ⟨bc, 0, none⟩ = false) (pd : PdR w' pb z g v' n' L') (ho : ∀ i, v'.ownBlock = some i → wr.heap.size ≤ i ∨ v.ownBlock = some i) : FiR bc h' pb z g v' n' L' E S w w' := by
  have hz := s.below.size
  have hl := s.lc
  have hlp := s.pd.lt
  refine ⟨s.below.trans (k.toBelow hz fun i hi => ?_), fc, ff, pd, s.ne, fun i hi => ?_, s.lb, s.lp, fun i hi => ?_, fun e he => ?_, fun e he => ?_⟩
  · rcases hX i hi with rfl | rfl | hv
    · exact s.lp
    · exact s.lb
    · exact s.lv i hv
  · rcases ho i hi with h1 | h1
    · omega
    · exact s.nv i h1
  · rcases ho i hi with h1 | h1
    · omega
    · exact s.lv i h1
  · obtain ⟨a, b, c, d, f⟩ := s.ex e he
    refine ⟨(k.block e.b a.lt fun hx => ?_).trans a, b, c, d, fun hv => ?_⟩
    · rcases hX _ hx with h1 | h1 | h1
      · exact d h1
      · exact c h1
      · exact f h1
    · rcases ho _ hv with h1 | h1
      · have := a.lt; omega
      · exact f h1
  · obtain ⟨⟨a, a2⟩, b, c, d, f⟩ := s.sx e he
    have hk := k.block e.b a fun hx => by
      rcases hX _ hx with h1 | h1 | h1
      · exact d h1
      · exact c h1
      · exact f h1
    refine ⟨⟨Nat.lt_of_lt_of_le a k.size, fun i hi j hj => (World.cell?_of_block hk).trans (a2 i hi j hj)⟩, b, c, d, fun hv => ?_⟩
    rcases ho _ hv with h1 | h1
    · omega
    · exact f h1
theorem FiR.down (s : FiR bc h pb z g v n L E S w wr) (k : Below wr.heap.size wr w') : FiR bc h pb z g v n L E S w w' :=
  s.chg (X := fun _ => False) (Chg.below k) (fun _ y => y.elim) ((k.cell (p := ⟨bc, 0, none⟩) s.lc).trans s.fc) ((k.frozen (p := ⟨bc, 0, none⟩) s.lc).trans s.ff) (s.pd.below k) (fun _ y => .inr y)
theorem FiR.alloc (s : FiR bc h pb z g v n L E S w wr) (o : Obj) : FiR bc h pb z g v n L E S w (wr.alloc o) := s.down ((Below.refl _ _).alloc (Nat.le_refl _) o)
theorem FiR.drew (s : FiR bc h pb z g v n L E S w wr) : FiR bc h pb z g v n L E S w wr.drew := s.down (Below.drew (Below.refl _ _))
theorem FiR.upd (s : FiR bc h pb z g v n L E S w wr) (u : Upd ⟨bc, 0, none⟩ h' wr w') : FiR bc h' pb z g v n L E S w w' :=
  s.chg (Chg.upd (X := fun k => k = bc) u rfl) (fun _ y => .inr (.inl y)) (u.cellc s.fc) ((u.frozen s.lc).trans s.ff) (s.pd.upd u (fun e => s.ne e.symm) s.nv) (fun _ y => .inr y)
theorem FiR.ear (s : FiR bc h pb z g v n L E S w wr) (r : EaR ⟨bc, 0, none⟩ h' pb z g v n L' wr w') : FiR bc h' pb z g v n L' E S w w' :=
  s.chg r.chg (fun _ y => y.elim (fun a => .inr (.inl a)) (fun a => .inr (.inr a))) r.cell r.free r.pd (fun _ y => .inr y)
theorem FiR.pwr (s : FiR bc h pb z g v n L E S w wr) (r : PwR ⟨bc, 0, none⟩ h' pb z g v v' n' L' wr w') : FiR bc h' pb z g v' n' L' E S w w' :=
  s.chg r.chg (fun _ y => y) r.cell r.free r.pd (fun i y => by
    obtain ⟨gb, h1, h2⟩ := r.own
    rw [h1] at y; injection y with y; subst y
    exact h2)
theorem FiR.congr (s : FiR bc h pb z g v n L E S w wr) (eh : h = h') (e : ∀ i, i < n → ∀ j, j < 11 → L i j = L' i j) : FiR bc h' pb z g v n L' E S w wr := by
  subst eh
  exact ⟨s.below, s.fc, s.ff, ⟨s.pd.blk, s.pd.own.congr e, s.pd.ne⟩, s.ne, s.nv, s.lb, s.lp, s.lv, s.ex, s.sx⟩
/-- A new block, filled. -/
theorem FiR.put (s : FiR bc h pb z g v n L E S w wr) (T m : Nat) (f F : Nat → Int) : FiR bc h pb z g v n L (⟨wr.heap.size, T, m, F⟩ :: E) S w ((wr.alloc (.cells (arrv m f) T)).setRow wr.heap.size (arrv m F)) := by
  have b : Below wr.heap.size wr ((wr.alloc (.cells (arrv m f) T)).setRow wr.heap.size (arrv m F)) := below_row ((Below.refl _ _).alloc (Nat.le_refl _) _) (Nat.le_refl _) _
  have k := s.down b
  have hl := s.lc
  have hp := s.pd.lt
  refine ⟨k.below, k.fc, k.ff, k.pd, k.ne, k.nv, k.lb, k.lp, k.lv, fun e he => ?_, k.sx⟩
  rcases List.mem_cons.1 he with rfl | he
  · exact ⟨(Blk.new wr T m f).setRow F, s.below.size, by simp only; omega, by simp only; omega, fun hv => by have := s.pd.own.lt hv; simp only at this; omega⟩
  · exact k.ex e he
/-- A block that was made, taken into the list. -/
theorem FiR.add (s : FiR bc h pb z g v n L E S w wr) {b T m : Nat} {F : Nat → Int} (hb : Blk wr b T m F) (h0 : w.heap.size ≤ b) (h1 : b ≠ bc) (h2 : b ≠ pb) (h3 : v.ownBlock ≠ some b) : FiR bc h pb z g v n L (⟨b, T, m, F⟩ :: E) S w wr := by
  refine ⟨s.below, s.fc, s.ff, s.pd, s.ne, s.nv, s.lb, s.lp, s.lv, fun e he => ?_, s.sx⟩
  rcases List.mem_cons.1 he with rfl | he
  · exact ⟨hb, h0, h1, h2, h3⟩
  · exact s.ex e he
theorem FiR.sub {E' : List Lx} {S' : List Sx} (s : FiR bc h pb z g v n L E S w wr) (h1 : ∀ e, e ∈ E' → e ∈ E) (h2 : ∀ e, e ∈ S' → e ∈ S) : FiR bc h pb z g v n L E' S' w wr :=
  ⟨s.below, s.fc, s.ff, s.pd, s.ne, s.nv, s.lb, s.lp, s.lv, fun e he => s.ex e (h1 e he), fun e he => s.sx e (h2 e he)⟩
/-- A list of outputs that All told. -/
theorem FiR.all {v2 : Value} {m : Nat} {M : Nat → Nat → Int} (s : FiR bc h pb z g v n L E S w wr) (k : Below wr.heap.size wr w') (o : OwnO w' v2 m M) {gb : Nat} (hv : v2.ownBlock = some gb) (hg : wr.heap.size ≤ gb) :
    ∃ cp, v2 = .slice (some ⟨gb, 0, none⟩) m cp ∧ m ≤ cp ∧ FiR bc h pb z g v n L E (⟨gb, m, M⟩ :: S) w w' := by
  have q := s.down k
  have hl := s.lc
  have hp := s.pd.lt
  have hz := s.below.size
  rcases o.form with ⟨rfl, rfl⟩ | ⟨gb', cp, rfl, hl2, hc, hL⟩
  · simp [Value.ownBlock] at hv
  · simp [Value.ownBlock] at hv
    subst hv
    refine ⟨cp, rfl, hc, q.below, q.fc, q.ff, q.pd, q.ne, q.nv, q.lb, q.lp, q.lv, q.ex, fun e he => ?_⟩
    rcases List.mem_cons.1 he with rfl | he
    · exact ⟨⟨hl2, hL⟩, by simp only; omega, by simp only; omega, by simp only; omega, fun hv => by have := s.pd.own.lt hv; simp only at this; omega⟩
    · exact q.sx e he
theorem FiR.e0 {b T m : Nat} {F : Nat → Int} (s : FiR bc h pb z g v n L (⟨b, T, m, F⟩ :: E) S w wr) : Blk wr b T m F := (s.ex _ (.head _)).1
theorem FiR.e1 {a : Lx} {b T m : Nat} {F : Nat → Int} (s : FiR bc h pb z g v n L (a :: ⟨b, T, m, F⟩ :: E) S w wr) : Blk wr b T m F := (s.ex _ (.tail _ (.head _))).1
theorem FiR.e2 {a a2 : Lx} {b T m : Nat} {F : Nat → Int} (s : FiR bc h pb z g v n L (a :: a2 :: ⟨b, T, m, F⟩ :: E) S w wr) : Blk wr b T m F := (s.ex _ (.tail _ (.tail _ (.head _)))).1
theorem FiR.s0 {b m : Nat} {M : Nat → Nat → Int} (s : FiR bc h pb z g v n L E (⟨b, m, M⟩ :: S) w wr) {i j : Nat} (hi : i < m) (hj : j < 11) : wr.cell? ⟨b, i * 11 + j, none⟩ = some (.int .i64 (M i j)) := (s.sx _ (.head _)).1.2 i hi j hj
theorem FiR.s1 {a : Sx} {b m : Nat} {M : Nat → Nat → Int} (s : FiR bc h pb z g v n L E (a :: ⟨b, m, M⟩ :: S) w wr) {i j : Nat} (hi : i < m) (hj : j < 11) : wr.cell? ⟨b, i * 11 + j, none⟩ = some (.int .i64 (M i j)) := (s.sx _ (.tail _ (.head _))).1.2 i hi j hj
/-- A flag beside a predictor that was made. -/
theorem fi_flag (b : Below w.heap.size w wr) (p : PdR wr pb z g v n L) (hp : w.heap.size ≤ pb) (hv : ∀ k, v.ownBlock = some k → w.heap.size ≤ k) : FiR wr.heap.size false pb z g v n L [] [] w (wr.alloc (.cells #[.bool false] 29)) := by
  have hz := b.size
  have f := Flg.new wr false
  exact ⟨b.alloc hz _, f.cell, f.free, p.alloc _, by have := p.lt; omega, fun k hk => by have := p.own.lt hk; omega, hz, hp, hv, (fun e he => by cases he), (fun e he => by cases he)⟩
/-- The same, by another flag. -/
theorem FiR.flag (s : FiR bc h pb z g v n L E S w wr) : FiR wr.heap.size false pb z g v n L E S w (wr.alloc (.cells #[.bool false] 29)) := by
  have k := s.alloc (.cells #[.bool false] 29)
  have f := Flg.new wr false
  have hz := s.below.size
  exact ⟨k.below, f.cell, f.free, k.pd, by have := s.pd.lt; omega, fun i hi => by have := s.pd.own.lt hi; omega, hz, k.lp, k.lv, fun e he => ⟨(k.ex e he).1, (k.ex e he).2.1, by have := (s.ex e he).1.lt; omega, (k.ex e he).2.2.2⟩, fun e he => ⟨(k.sx e he).1, (k.sx e he).2.1, by have := (s.sx e he).1.1; omega, (k.sx e he).2.2.2⟩⟩
end
end Go.Proofs.Ytpoiobgpggiebaa
/- What is good is kept as it is; rest, at the beginning: closed numbers. No program. -/
namespace Go.Proofs.Ytpoiobgpggiebaa
def onSt : Nat → Int := fun i => if i = 0 then 1073741824 else 0
def p0 : Nat → Int := fun i => if i = 0 then 8589935 else if i = 6 then -84238486 else if i = 7 ∨ i = 11 ∨ i = 15 ∨ i = 19 then 1073741824 else 0
set_option maxRecDepth 100000
end Go.Proofs.Ytpoiobgpggiebaa
/- The numbers of law 27's awake. -/
namespace Go.Proofs.Ytpoiobgpggiebaa
set_option maxRecDepth 100000
/-- The estimate that goes north at one metre a second. -/
def a7S : Nat → Int := fun i => if i = 0 ∨ i = 4 then 1073741824 else 0
def a7A : Nat → Int := fun i => if i = 1 then 1073741824 else 0
def a7B : Nat → Int := fun i => if i = 1 ∨ i = 5 then 1073741824 else 0
def a7I : Nat → Int := fun i => if i < 2 then 1000000 else 0
def a7C : Nat → Int := fun i => if i = 0 then 1000000 else if i = 1 ∨ i = 5 ∨ i = 8 then 1073741824 else if i = 7 then 10529810258 else if i = 10 then 5264905129 else 0
def a7D : Nat → Int := fun i => if i = 0 then 1073741824 else if i = 8 then 5 else 0
theorem a7_start : (∀ j, j < 11 → ofF onSt 0 j = a7A j) ∧ keepH onSt = false := by decide +kernel
theorem a7_corr : (∀ j, j < 11 → eaF (crF 1073741824 (ofF a7S 0) a7A) a7A j = a7B j) := by decide +kernel
theorem a7_corrH : crH 1073741824 a7S 0 a7A = false ∧ eaH (crF 1073741824 (ofF a7S 0) a7A) (crFH 1073741824 (ofF a7S 0) a7A) a7A = false := by decide +kernel
theorem a7_push : (∀ j, j < 11 → ofF (stepN (poF onSt a7B) a7I) 1000000 j = a7C j) := by decide +kernel
theorem a7_pushH : stepH2 (poF onSt a7B) a7I = false ∧ keepH (stepN (poF onSt a7B) a7I) = false := by decide +kernel
theorem a7_shift : (∀ j, j < 11 → eaF (shF a7D) a7B j = if j = 9 then 5 else a7B j) ∧ eaH (shF a7D) (shH a7D) a7B = false ∧ eaH (shF a7D) (shH a7D) a7C = false := by decide +kernel
theorem a7_one : ∀ i, i < 4 → a7D i = oneQ i := by decide +kernel
end Go.Proofs.Ytpoiobgpggiebaa
/- '==' of an output with itself; a jump, an output, a vector built; one jump as a slice. -/
namespace Go.Proofs.Ytpoiobgpggiebaa
open Go.RowKit
open Go
set_option maxRecDepth 100000
theorem run_part_vecO {P : Program} {w : World} {t e : TypeId} {n m : Nat} {i : TypeInfo} (hu : P.underlying t = some (.array n e)) (hi : P.info? t = some i) (hn : i.size = n) (a : Nat) (f : Nat → Int) (h : a + n ≤ m) :
    (part t (arrv m f) a).run P w = .ok (.agg (arrv n fun i => f (a + i))) w := by
  have hagg : (isAgg t).run P w = .ok true w := by
    unfold isAgg
    rw [Sem.run_bind, run_underlying hu w]
    rfl
  have hs : P.cellsOf t = n := by simp [Program.cellsOf, hi, hn]
  unfold part
  simp only [Sem.run_bind, hagg, Result.andThen_ok, if_true, run_sizeOf w hi, hs, Sem.run_pure]
  rw [arrv_extract m a n f h]
theorem run_eqFields_consO {P : Program} {w : World} {d : Nat} {xs ys : Array Value} {f : Field} {fs : List Field} {a b : Value} {r r' : Bool} (hn : f.name ≠ "_") (ha : (part f.type xs f.offset).run P w = .ok a w)
    (hb : (part f.type ys f.offset).run P w = .ok b w) (hr : (Op.equalIn d f.type a b).run P w = .ok r w) (h : (Op.eqFields d xs ys fs).run P w = .ok r' w) : (Op.eqFields d xs ys (f :: fs)).run P w = .ok (r && r') w := by
  simp only [Op.eqFields, if_pos hn, Sem.run_bind, ha, hb, hr, Result.andThen_ok]
  cases r
  · simp
  · simp [h]
theorem fieldsOf_ofO {P : Program} {t : TypeId} {fs : Array Field} (h : P.underlying t = some (.struct fs)) : P.fieldsOf t = fs := by simp [Program.fieldsOf, h]
theorem run_equalIn_out (d : Nat) (w : World) (f : Nat → Int) : (Op.equalIn (d + 3) 49 (.agg (arrv 11 f)) (.agg (arrv 11 f))).run Try.prog w = .ok true w := by
  have hf := fieldsOf_ofO Try.underlying49
  rw [show d + 3 = (d + 2) + 1 from rfl, run_equalIn_struct w (d + 2) _ _ _ (by rw [hf]; exact Try.underlying49) (by kernel_rfl), hf]
  have hi22 : ∃ i, Try.prog.info? 42 = some i ∧ i.size = 4 := by
    have h : (Try.prog.info? 42).map (·.size) = some 4 := by kernel_rfl
    cases e : Try.prog.info? 42 with
    | none => rw [e] at h; cases h
    | some i => rw [e] at h; exact ⟨i, rfl, by simpa using h⟩
  have hi23 : ∃ i, Try.prog.info? 43 = some i ∧ i.size = 3 := by
    have h : (Try.prog.info? 43).map (·.size) = some 3 := by kernel_rfl
    cases e : Try.prog.info? 43 with
    | none => rw [e] at h; cases h
    | some i => rw [e] at h; exact ⟨i, rfl, by simpa using h⟩
  have hi2 : ∃ i, Try.prog.info? 2 = some i ∧ i.size = 1 := by
    have h : (Try.prog.info? 2).map (·.size) = some 1 := by kernel_rfl
    cases e : Try.prog.info? 2 with
    | none => rw [e] at h; cases h
    | some i => rw [e] at h; exact ⟨i, rfl, by simpa using h⟩
  obtain ⟨i22, h22, s22⟩ := hi22
  obtain ⟨i23, h23, s23⟩ := hi23
  obtain ⟨i2, h2, s2⟩ := hi2
  have hc : Try.prog.cellsOf 2 = 1 := by simp [Program.cellsOf, h2, s2]
  have pt := run_part_plain (P := Try.prog) w (plain_int Try.underlying2) (arrv_get (n := 11) (f := f) (i := 0) (by omega))
  have p0 := run_part_vecO (w := w) (m := 11) Try.underlying42 h22 s22 1 f (by omega)
  have p1 := run_part_vecO (w := w) (m := 11) Try.underlying43 h23 s23 5 f (by omega)
  have p2 := run_part_vecO (w := w) (m := 11) Try.underlying43 h23 s23 8 f (by omega)
  have qt : (Op.equalIn (d + 2) 2 (.int .i64 (f 0)) (.int .i64 (f 0))).run Try.prog w = .ok true w := by
    rw [show d + 2 = (d + 1) + 1 from rfl, run_equalIn_int w (d + 1) 2 .i64 .i64 _ _ Try.underlying2]; simp
  have q0 := fun g => (run_equalIn_vec (w := w) d Try.underlying42 Try.underlying2 hc h2 g g).trans (by rw [eqB_iff.2 fun _ _ => rfl])
  have q1 := fun g => (run_equalIn_vec (w := w) d Try.underlying43 Try.underlying2 hc h2 g g).trans (by rw [eqB_iff.2 fun _ _ => rfl])
  have z : (Op.eqFields (d + 2) (arrv 11 f) (arrv 11 f) []).run Try.prog w = .ok true w := by simp [Op.eqFields]
  have e3 := run_eqFields_consO (f := ⟨"P", 43, 8, false, "", "", 64⟩) (by decide) p2 p2 (q1 _) z
  have e2 := run_eqFields_consO (f := ⟨"V", 43, 5, false, "", "", 40⟩) (by decide) p1 p1 (q1 _) e3
  have e1 := run_eqFields_consO (f := ⟨"Q", 42, 1, false, "", "", 8⟩) (by decide) p0 p0 (q0 _) e2
  have e0 := run_eqFields_consO (f := ⟨"T", 2, 0, false, "", "", 0⟩) (by decide) pt pt qt e1
  exact e0
theorem run_op_eqlOut {o : Oper} {ev : Operand → Value} {w : World} (x y : Operand) (ho : o.op = .binOp .eql 49 x y 49) {f g : Nat → Int} (hx : ev x = .agg (arrv 11 f)) (hy : ev y = .agg (arrv 11 g)) (hfg : arrv 11 f = arrv 11 g) :
    (execOp ev o).run Try.prog w = .ok (.value (.bool true)) w := by
  have e : (Op.equal 49 (.agg (arrv 11 f)) (.agg (arrv 11 f))).run Try.prog w = .ok true w := run_equalIn_out 9997 w f
  have hG : Try.prog.eqGuardType Try.prog.depth 49 = false := by kernel_rfl
  rw [← hfg] at hy
  unfold execOp
  simp only [ho, hx, hy, eqGuard, binOp, Sem.run_bind, Sem.run_pure, Result.andThen_ok]
  simp [hG, e, go_sem]
/-- A jump of its turn and its place. -/
def dlF (Q P : Nat → Int) : Nat → Int := fun i => if i < 4 then Q i else if 7 ≤ i then P (i - 7) else 0
theorem run_build_dl2 {o : Oper} {ev : Operand → Value} {w : World} (x y : Operand) (ho : o.op = .build 45 #[(0, x), (2, y)]) {Q P : Nat → Int} (hx : ev x = .agg (arrv 4 Q)) (hy : ev y = .agg (arrv 3 P)) :
    (execOp ev o).run Try.prog w = .ok (.value (.agg (arrv 10 (dlF Q P)))) w := by
  unfold execOp
  simp only [ho, List.map_toArray, List.map_cons, List.map_nil, hx, hy]
  kernel_rfl
theorem run_build_v2o {o : Oper} {ev : Operand → Value} {w : World} (x y : Operand) (ho : o.op = .build 43 #[(0, x), (1, y)]) {a b : Int} (hx : ev x = .int .i64 a) (hy : ev y = .int .i64 b) :
    (execOp ev o).run Try.prog w = .ok (.value (.agg (arrv 3 (vc3 a b 0)))) w := by
  unfold execOp
  simp only [ho, List.map_toArray, List.map_cons, List.map_nil, hx, hy]
  kernel_rfl
theorem run_build_v1o {o : Oper} {ev : Operand → Value} {w : World} (x : Operand) (ho : o.op = .build 43 #[(0, x)]) {a : Int} (hx : ev x = .int .i64 a) :
    (execOp ev o).run Try.prog w = .ok (.value (.agg (arrv 3 (vc3 a 0 0)))) w := by
  unfold execOp
  simp only [ho, List.map_toArray, List.map_cons, List.map_nil, hx]
  kernel_rfl
theorem run_build_out3 {o : Oper} {ev : Operand → Value} {w : World} (x y z : Operand) (ho : o.op = .build 49 #[(0, x), (1, y), (2, z)]) {t : Int} {A V : Nat → Int} (hx : ev x = .int .i64 t) (hy : ev y = .agg (arrv 4 A)) (hz : ev z = .agg (arrv 3 V)) :
    (execOp ev o).run Try.prog w = .ok (.value (.agg (arrv 11 (outF t A V (fun _ => 0))))) w := by
  unfold execOp
  simp only [ho, List.map_toArray, List.map_cons, List.map_nil, hx, hy, hz]
  kernel_rfl
theorem run_build_st5 {o : Oper} {ev : Operand → Value} {w : World} (x0 x1 x2 x3 x4 : Operand) (ho : o.op = .build 32 #[(0, x0), (1, x1), (2, x2), (3, x3), (4, x4)]) {a b c d e : Int} (h0 : ev x0 = .int .i64 a) (h1 : ev x1 = .int .i64 b) (h2 : ev x2 = .int .i64 c) (h3 : ev x3 = .int .i64 d) (h4 : ev x4 = .int .i64 e) :
    (execOp ev o).run Try.prog w = .ok (.value (.agg (arrv 24 (fun i => if i = 0 then a else if i = 1 then b else if i = 2 then c else if i = 3 then d else if i = 4 then e else 0)))) w := by
  unfold execOp
  simp only [ho, List.map_toArray, List.map_cons, List.map_nil, h0, h1, h2, h3, h4]
  kernel_rfl
theorem run_build_st1o {o : Oper} {ev : Operand → Value} {w : World} (x : Operand) (ho : o.op = .build 32 #[(0, x)]) {a : Int} (hx : ev x = .int .i64 a) :
    (execOp ev o).run Try.prog w = .ok (.value (.agg (arrv 24 (fun i => if i = 0 then a else 0)))) w := by
  unfold execOp
  simp only [ho, List.map_toArray, List.map_cons, List.map_nil, hx]
  kernel_rfl
theorem run_build_imu2 {o : Oper} {ev : Operand → Value} {w : World} (x y : Operand) (ho : o.op = .build 35 #[(0, x), (1, y)]) {a b : Int} (hx : ev x = .int .i64 a) (hy : ev y = .int .i64 b) :
    (execOp ev o).run Try.prog w = .ok (.value (.agg (arrv 8 (fun i => if i = 0 then a else if i = 1 then b else 0)))) w := by
  unfold execOp
  simp only [ho, List.map_toArray, List.map_cons, List.map_nil, hx, hy]
  kernel_rfl
theorem filld1 (A : Nat → Int) (Z : Array Value) (hZ : Z = arrv 10 (fun _ => 0)) : Instr.fill (fun i => some (i * 10, 10)) Z [(0, .agg (arrv 10 A))] = some (arrv 10 A) := by
  subst hZ; kernel_rfl
theorem zranged1 (Z : Array Value) (hZ : Z = arrv 10 (fun _ => 0)) : (Array.range (1 * 10)).map (fun i => Z[i % Z.size]!) = arrv 10 (fun _ => 0) := by
  subst hZ; kernel_rfl
theorem run_bsld1 (A : Nat → Int) (w : World) : (Instr.buildSlice 76 1 #[(0, .agg (arrv 10 A))]).run Try.prog w = .ok (.slice (some ⟨w.heap.size, 0, none⟩) 1 1) (w.alloc (.cells (arrv 10 A) 45)) := by
  have hz : (zeroValue 45).run Try.prog w = .ok (.agg (arrv 10 (fun _ => 0))) w := by kernel_rfl
  have hs : (sizeOf 45).run Try.prog w = .ok 10 w := by kernel_rfl
  unfold Instr.buildSlice
  simp only [Sem.run_bind, run_underlying Try.underlying76, Result.andThen_ok, hs]
  rw [if_neg (by decide), if_neg (by decide)]
  have hf : Instr.fill (fun i => some (i * 10, 10)) (Array.map (fun x => (Value.agg (arrv 10 (fun _ => 0))).cells[x % (Value.agg (arrv 10 (fun _ => 0))).cells.size]!) (Array.range (1 * 10))) [(0, Value.agg (arrv 10 A))] = some (arrv 10 A) :=
    filld1 A _ (zranged1 (arrv 10 (fun _ => 0)) rfl)
  simp only [Sem.run_bind, hz, Result.andThen_ok, Sem.run_pure, hf]
  simp [newRow, newObj, go_sem]
  rfl
theorem wp_bsld1 {o : Oper} {a : Act} {w : World} {K : Act → World → Prop} {Q : Exit → Act → World → Prop} {A : Nat → Int} (x : Operand) (ho : o.op = .buildSlice 76 1 #[(0, x)])
    (hx : a.eval x = .agg (arrv 10 A)) (h : K (a.put o.dst (.slice (some ⟨w.heap.size, 0, none⟩) 1 1)) (w.alloc (.cells (arrv 10 A) 45))) : o.wp Try.prog a w K Q := by
  unfold Oper.wp execOp
  simp only [ho, Sem.run_bind, List.map_toArray, List.map_cons, List.map_nil, hx, run_bsld1 A w, Result.andThen_ok]
  exact h
end Go.Proofs.Ytpoiobgpggiebaa
/- Contract of law 27's awake. -/
namespace Go.Proofs.Ytpoiobgpggiebaa
open Go.RowKit
open Go
set_option maxRecDepth 100000
section
variable {bc pb : Nat} {v : Value} {E : List Lx} {S : List Sx} {w wr w' : World}
theorem a7_newF (b : Below w.heap.size w wr) (p : PdR wr pb 2 1073741824 v 0 (fun _ _ => 0)) (hp : w.heap.size ≤ pb) (hv : v = .slice none 0 0) : FiR wr.heap.size false pb 2 1073741824 v 0 (fun _ _ => 0) [] [] w (wr.alloc (.cells #[.bool false] 29)) :=
  fi_flag b p hp (fun k hk => by subst hv; simp [Value.ownBlock] at hk)
theorem a7_startF {v' : Value} {n : Nat} {L : Nat → Nat → Int} (s : FiR bc false pb 2 1073741824 v n L E S w wr) (p : PdR w' pb 2 1073741824 v' 1 (fun _ => ofF onSt 0)) (hc : w'.cell? ⟨bc, 0, none⟩ = some (.bool (false || keepH onSt))) (hf : w'.frozen? ⟨bc, 0, none⟩ = false) (k : Chg (fun k => k = pb ∨ k = bc) wr w') {gb : Nat} (hv : v'.ownBlock = some gb) (hg : wr.heap.size ≤ gb) :
    FiR bc false pb 2 1073741824 v' 1 (fun _ => a7A) E S w w' :=
  (s.chg k (fun i y => y.elim .inl (fun a => .inr (.inl a))) hc hf p (fun i hi => by rw [hv] at hi; injection hi with hi; subst hi; exact .inl hg)).congr (by rw [a7_start.2]; rfl) (fun _ _ j hj => a7_start.1 j hj)
theorem a7_corrF (s : FiR bc false pb 2 1073741824 v 1 (fun _ => a7A) E S w wr) (r : EaR ⟨bc, 0, none⟩ (false || crH 1073741824 a7S 0 ((fun _ => a7A) 0) || orB (fun i => eaH (crF 1073741824 (ofF a7S 0) ((fun _ => a7A) 0)) (crFH 1073741824 (ofF a7S 0) ((fun _ => a7A) 0)) ((fun _ => a7A) i)) 1) pb 2 1073741824 v 1 (eaL (crF 1073741824 (ofF a7S 0) ((fun _ => a7A) 0)) (fun _ => a7A) 1) wr w') : FiR bc false pb 2 1073741824 v 1 (fun _ => a7B) E S w w' :=
  (s.ear r).congr (by show (false || crH 1073741824 a7S 0 a7A || (false || eaH (crF 1073741824 (ofF a7S 0) a7A) (crFH 1073741824 (ofF a7S 0) a7A) a7A)) = false; rw [a7_corrH.1, a7_corrH.2]; rfl) (fun i hi j hj => by
    obtain rfl : i = 0 := by omega
    exact a7_corr j hj)
def a7L : Nat → Nat → Int := fun i => if i = 0 then a7B else a7C
theorem a7_pushF {v' : Value} (s : FiR bc false pb 2 1073741824 v 1 (fun _ => a7B) E S w wr) (r : PwR ⟨bc, 0, none⟩ (false || psH onSt a7B a7I) pb 2 1073741824 v v' (psN 2 0) (psL 2 0 (fun _ => a7B) (psA onSt a7B a7I)) wr w') : FiR bc false pb 2 1073741824 v' 2 a7L E S w w' :=
  (s.pwr r).congr (by unfold psH; rw [a7_pushH.1, a7_pushH.2]; rfl) (fun i hi j hj => by
    rcases (show i = 0 ∨ i = 1 by simp [psN] at hi; omega) with rfl | rfl
    · rfl
    · exact a7_push j hj)
def a7M : Nat → Nat → Int := fun i => if i = 0 then (fun j => if j = 9 then 5 else a7B j) else eaF (shF a7D) a7C
theorem a7_shiftF (s : FiR bc false pb 2 1073741824 v 2 a7L E S w wr) (r : EaR ⟨bc, 0, none⟩ (false || orB (fun i => eaH (shF a7D) (shH a7D) (a7L i)) 2) pb 2 1073741824 v 2 (eaL (shF a7D) a7L 2) wr w') : FiR bc false pb 2 1073741824 v 2 a7M E S w w' :=
  (s.ear r).congr (by show (false || ((false || eaH (shF a7D) (shH a7D) a7B) || eaH (shF a7D) (shH a7D) a7C)) = false; rw [a7_shift.2.1, a7_shift.2.2]; rfl) (fun i hi j hj => by
    rcases (show i = 0 ∨ i = 1 by omega) with rfl | rfl
    · exact a7_shift.1 j hj
    · rfl)
theorem FiR.lay {h : Bool} {z g : Int} {n : Nat} {L : Nat → Nat → Int} (s : FiR bc h pb z g v n L E S w wr) (T m : Nat) (F : Nat → Int) : FiR bc h pb z g v n L (⟨wr.heap.size, T, m, F⟩ :: E) S w (wr.alloc (.cells (arrv m F) T)) :=
  (s.alloc (.cells (arrv m F) T)).add (Blk.new wr T m F) s.below.size (by have := s.lc; omega) (by have := s.pd.lt; omega) (fun hv => by have := s.pd.own.lt hv; omega)
theorem a7_fills : arrv 24 (fun i => if i = 0 then (1073741824 : Int) else 0) = arrv 24 onSt ∧ arrv 24 (fun i => if i = 0 then (1073741824 : Int) else if i = 1 then 0 else if i = 2 then 0 else if i = 3 then 0 else if i = 4 then 1073741824 else 0) = arrv 24 a7S ∧ arrv 8 (fun i => if i = 0 then (1000000 : Int) else if i = 1 then 1000000 else 0) = arrv 8 a7I ∧ arrv 10 (dlF oneQ (vc3 0 5 0)) = arrv 10 a7D :=
  ⟨arrv_congr (by decide +kernel), arrv_congr (by decide +kernel), arrv_congr (by decide +kernel), arrv_congr (by decide +kernel)⟩
theorem a7_outE : arrv 11 (ofF a7S 7) = arrv 11 (outF 7 oneQ (vc3 1073741824 0 0) (fun _ => 0)) ∧ (false || keepH a7S) = false := ⟨arrv_congr (by decide +kernel), by decide +kernel⟩
theorem FiR.putO {h : Bool} {z g : Int} {n : Nat} {L : Nat → Nat → Int} (s : FiR bc h pb z g v n L E S w wr) (F : Nat → Int) : Blk (wr.alloc (.cells #[.int .i64 0, .int .i64 0, .int .i64 0, .int .i64 0, .int .i64 0, .int .i64 0, .int .i64 0, .int .i64 0, .int .i64 0, .int .i64 0, .int .i64 0] 49)) wr.heap.size 49 11 (fun _ => 0) ∧ FiR bc h pb z g v n L (⟨wr.heap.size, 49, 11, F⟩ :: E) S w ((wr.alloc (.cells #[.int .i64 0, .int .i64 0, .int .i64 0, .int .i64 0, .int .i64 0, .int .i64 0, .int .i64 0, .int .i64 0, .int .i64 0, .int .i64 0, .int .i64 0] 49)).setRow wr.heap.size (arrv 11 F)) := by
  rw [zou]; exact ⟨Blk.new _ _ _ _, s.put 49 11 (fun _ => 0) F⟩
theorem FiR.putS {h : Bool} {z g : Int} {n : Nat} {L : Nat → Nat → Int} (s : FiR bc h pb z g v n L E S w wr) (F : Nat → Int) : Blk (wr.alloc (.cells #[.int .i64 0, .int .i64 0, .int .i64 0, .int .i64 0, .int .i64 0, .int .i64 0, .int .i64 0, .int .i64 0, .int .i64 0, .int .i64 0, .int .i64 0, .int .i64 0, .int .i64 0, .int .i64 0, .int .i64 0, .int .i64 0, .int .i64 0, .int .i64 0, .int .i64 0, .int .i64 0, .int .i64 0, .int .i64 0, .int .i64 0, .int .i64 0] 32)) wr.heap.size 32 24 (fun _ => 0) ∧ FiR bc h pb z g v n L (⟨wr.heap.size, 32, 24, F⟩ :: E) S w ((wr.alloc (.cells #[.int .i64 0, .int .i64 0, .int .i64 0, .int .i64 0, .int .i64 0, .int .i64 0, .int .i64 0, .int .i64 0, .int .i64 0, .int .i64 0, .int .i64 0, .int .i64 0, .int .i64 0, .int .i64 0, .int .i64 0, .int .i64 0, .int .i64 0, .int .i64 0, .int .i64 0, .int .i64 0, .int .i64 0, .int .i64 0, .int .i64 0, .int .i64 0] 32)).setRow wr.heap.size (arrv 24 F)) := by
  rw [zvec24]; exact ⟨Blk.new _ _ _ _, s.put 32 24 (fun _ => 0) F⟩
end
set_option maxHeartbeats 16000000 in
theorem awake27_any (w : World) : Calls Try.prog 9 #[] w fun e w' => e = .returned (.bool true) ∧ Below w.heap.size w w' := by
  go_enter Try.func9, Try.ntmps9
  go_upto_region 2 with (go_at_call 10; (refine (newp_good 2 1073741824 _ (by decide) (by decide) (by decide) (by decide)).mono ?_); rintro e w1 ⟨rfl, hb1, hp1⟩)
  have B1 := Lib.hid hb1
  have P1 := Lib.hid hp1
  clear hb1 hp1
  go_upto_region 4 with fail
  have S0 := Lib.hid (a7_newF B1.out P1.out (Nat.le_refl _) rfl)
  clear B1 P1
  obtain ⟨pb, hpb⟩ : ∃ x, w.heap.size = x := ⟨_, rfl⟩
  have WZ := Lib.hid hpb
  rw [hpb] at S0 ⊢
  clear hpb
  go_upto_region 5 with fail
  have hbz := S0.out.lc
  generalize w1.alloc (.cells #[.bool false] 29) = W0 at *
  obtain ⟨bc, hbc⟩ : ∃ x, w1.heap.size = x := ⟨_, rfl⟩
  rw [hbc] at S0 ⊢
  clear hbc hbz
  refine wp_region_lit ?_
  refine wpList_val (v := ?_) rfl ?_ ?_
  rotate_left
  · (go_simp; (try (first | with_reducible rfl | (constructor <;> with_reducible rfl))))
  (try simp only [Act.put, nA, nB, nC])
  refine wpList_step (fun K hK => ?_)
  go_simp
  (refine (now_none pb 2 1073741824 (fun _ _ => 0) none 0 _ S0.out.pd).mono ?_); rintro e w2 ⟨rfl, hb⟩; have S1 := Lib.hid (S0.out.down hb); clear hb S0; have N := Lib.hid (S1.out.putO (fun _ => 0))
  (try dsimp only)
  (try simp only [Act.put, nA, nB, nC])
  refine hK _ _ ?_
  clear hK K
  refine wpList_val (v := ?_) rfl ?_ ?_
  rotate_left
  · (go_simp; (try (first | with_reducible rfl | (constructor <;> with_reducible rfl))))
  (try simp only [Act.put, nA, nB, nC])
  refine wpList_val (v := ?_) rfl ?_ ?_
  rotate_left
  · (go_simp; (try (first | with_reducible rfl | (constructor <;> with_reducible rfl))))
  (try simp only [Act.put, nA, nB, nC])
  refine wpList_val (v := ?_) rfl ?_ ?_
  rotate_left
  · (go_simp; (try (first | with_reducible rfl | (constructor <;> with_reducible rfl))))
  (try simp only [Act.put, nA, nB, nC])
  refine wpList_act (v := ?_) (w' := ?_) rfl ?_ ?_
  rotate_left 2
  · (go_simp; (try (first | with_reducible rfl | (constructor <;> with_reducible rfl))))
  (try simp only [Act.put, nA, nB, nC])
  refine wpList_done (w' := ?_) rfl ?_ ?_
  rotate_left
  · (refine Eq.trans (run_store_row 49 (.tmp 4) (.tmp 28) (by rfl) (w2.heap.size) (by rfl) (by rfl) N.out.1 (iou.trans rfl)) ?_; with_reducible rfl)
  (try simp only [Act.put, nA, nB, nC])
  refine wpList_val (v := ?_) rfl ?_ ?_
  rotate_left
  · (go_simp; (try (first | with_reducible rfl | (constructor <;> with_reducible rfl))))
  (try simp only [Act.put, nA, nB, nC])
  refine wpList_nil ?_
  have S2 := Lib.hid (N.out.2.sub (E' := []) (S' := []) (by simp) (by simp))
  generalize (w2.alloc (.cells #[.int .i64 0, .int .i64 0, .int .i64 0, .int .i64 0, .int .i64 0, .int .i64 0, .int .i64 0, .int .i64 0, .int .i64 0, .int .i64 0, .int .i64 0] 49)).setRow w2.heap.size (arrv 11 (fun _ => 0)) = W2 at *
  clear N S1
  go_upto_region 6 with fail
  refine wp_region_lit ?_
  refine wpList_val (v := ?_) rfl ?_ ?_
  rotate_left
  · (go_simp; (try (first | with_reducible rfl | (constructor <;> with_reducible rfl))))
  (try simp only [Act.put, nA, nB, nC])
  refine wpList_val (v := ?_) rfl ?_ ?_
  rotate_left
  · (go_simp; (try (first | with_reducible rfl | (constructor <;> with_reducible rfl))))
  (try simp only [Act.put, nA, nB, nC])
  refine wpList_val (v := ?_) rfl ?_ ?_
  rotate_left
  · (refine Eq.trans (run_build_st1o (.const (.int .i64 1073741824)) (by rfl) (by rfl)) ?_; rw [a7_fills.1])
  (try simp only [Act.put, nA, nB, nC])
  refine wpList_step (fun K hK => ?_)
  go_simp
  (refine (start_out ⟨bc, 0, none⟩ false pb 2 1073741824 0 (fun _ _ => 0) (.slice none 0 0) onSt 0 _ S2.out.fc S2.out.ff S2.out.pd S2.out.ne S2.out.nv).mono ?_); rintro e w3 ⟨v3, rfl, hp, hc, hf, hk, gb, hv, hg⟩; have S3 := Lib.hid (a7_startF S2.out hp hc hf hk hv hg); clear hp hc hf hk hv hg S2
  (try dsimp only)
  (try simp only [Act.put, nA, nB, nC])
  refine hK _ _ ?_
  clear hK K
  refine wpList_nil ?_
  go_upto_region 7 with fail
  have N := Lib.hid (S3.out.putS a7S)
  refine wp_region_lit ?_
  refine wpList_val (v := ?_) rfl ?_ ?_
  rotate_left
  · (refine Eq.trans (run_build_st5 (.const (.int .i64 1073741824)) (.const (.int .i64 0)) (.const (.int .i64 0)) (.const (.int .i64 0)) (.const (.int .i64 1073741824)) (by rfl) (by rfl) (by rfl) (by rfl) (by rfl) (by rfl)) ?_; rw [a7_fills.2.1])
  (try simp only [Act.put, nA, nB, nC])
  refine wpList_act (v := ?_) (w' := ?_) rfl ?_ ?_
  rotate_left 2
  · (go_simp; (try (first | with_reducible rfl | (constructor <;> with_reducible rfl))))
  (try simp only [Act.put, nA, nB, nC])
  refine wpList_done (w' := ?_) rfl ?_ ?_
  rotate_left
  · (refine Eq.trans (run_store_row 32 (.tmp 6) (.tmp 34) (by rfl) (w3.heap.size) (by rfl) (by rfl) N.out.1 (ist.trans rfl)) ?_; with_reducible rfl)
  (try simp only [Act.put, nA, nB, nC])
  refine wpList_nil ?_
  have S4 := Lib.hid N.out.2
  generalize (w3.alloc (.cells #[.int .i64 0, .int .i64 0, .int .i64 0, .int .i64 0, .int .i64 0, .int .i64 0, .int .i64 0, .int .i64 0, .int .i64 0, .int .i64 0, .int .i64 0, .int .i64 0, .int .i64 0, .int .i64 0, .int .i64 0, .int .i64 0, .int .i64 0, .int .i64 0, .int .i64 0, .int .i64 0, .int .i64 0, .int .i64 0, .int .i64 0, .int .i64 0] 32)).setRow w3.heap.size (arrv 24 a7S) = W4 at *
  clear N S3
  obtain ⟨b6, hb6⟩ : ∃ x, w3.heap.size = x := ⟨_, rfl⟩
  rw [hb6] at S4 ⊢
  clear hb6
  have P0 := S4.out.e0
  go_upto_region 8 with fail
  refine wp_region_lit ?_
  refine wpList_val (v := ?_) rfl ?_ ?_
  rotate_left
  · (go_simp; (try (first | with_reducible rfl | (constructor <;> with_reducible rfl))))
  (try simp only [Act.put, nA, nB, nC])
  refine wpList_val (v := ?_) rfl ?_ ?_
  rotate_left
  · (go_simp; (try (first | with_reducible rfl | (constructor <;> with_reducible rfl))))
  (try simp only [Act.put, nA, nB, nC])
  refine wpList_val (v := ?_) rfl ?_ ?_
  rotate_left
  · refine Eq.trans (run_load_row 32 (.tmp 6) (by rfl) (b6) (by rfl) _ _ _ _ (P0) Try.underlying32 rfl (ist.trans (by rw [arrv_size]))) ?_; with_reducible rfl
  (try simp only [Act.put, nA, nB, nC])
  refine wpList_step (fun K hK => ?_)
  go_simp
  (refine (corr_ok ⟨bc, 0, none⟩ false pb 2 1073741824 1 (fun _ => a7A) v3 a7S 0 _ S4.out.fc S4.out.ff S4.out.pd S4.out.ne S4.out.nv (by decide) 0 (by decide)).mono ?_); rintro e w4 ⟨rfl, hr⟩; have S5 := Lib.hid (a7_corrF S4.out hr); clear hr S4 P0
  (try dsimp only)
  (try simp only [Act.put, nA, nB, nC])
  refine hK _ _ ?_
  clear hK K
  refine wpList_val (v := ?_) rfl ?_ ?_
  rotate_left
  · (go_simp; (try (first | with_reducible rfl | (constructor <;> with_reducible rfl))))
  (try simp only [Act.put, nA, nB, nC])
  refine wpList_nil ?_
  go_upto_region 9 with fail
  refine wp_region_lit ?_
  refine wpList_val (v := ?_) rfl ?_ ?_
  rotate_left
  · (go_simp; (try (first | with_reducible rfl | (constructor <;> with_reducible rfl))))
  (try simp only [Act.put, nA, nB, nC])
  refine wpList_step (fun K hK => ?_)
  go_simp
  (refine (now_some pb 2 1073741824 0 (fun _ => a7B) v3 _ S5.out.pd (by decide)).mono ?_); rintro e w5 ⟨rfl, hb⟩; have S6 := Lib.hid (S5.out.down hb); clear hb S5; have N := Lib.hid (S6.out.putO a7B)
  (try dsimp only)
  (try simp only [Act.put, nA, nB, nC])
  refine hK _ _ ?_
  clear hK K
  refine wpList_val (v := ?_) rfl ?_ ?_
  rotate_left
  · (go_simp; (try (first | with_reducible rfl | (constructor <;> with_reducible rfl))))
  (try simp only [Act.put, nA, nB, nC])
  refine wpList_val (v := ?_) rfl ?_ ?_
  rotate_left
  · (go_simp; (try (first | with_reducible rfl | (constructor <;> with_reducible rfl))))
  (try simp only [Act.put, nA, nB, nC])
  refine wpList_val (v := ?_) rfl ?_ ?_
  rotate_left
  · (go_simp; (try (first | with_reducible rfl | (constructor <;> with_reducible rfl))))
  (try simp only [Act.put, nA, nB, nC])
  refine wpList_act (v := ?_) (w' := ?_) rfl ?_ ?_
  rotate_left 2
  · (go_simp; (try (first | with_reducible rfl | (constructor <;> with_reducible rfl))))
  (try simp only [Act.put, nA, nB, nC])
  refine wpList_done (w' := ?_) rfl ?_ ?_
  rotate_left
  · (refine Eq.trans (run_store_row 49 (.tmp 8) (.tmp 42) (by rfl) (w5.heap.size) (by rfl) (by rfl) N.out.1 (iou.trans rfl)) ?_; with_reducible rfl)
  (try simp only [Act.put, nA, nB, nC])
  refine wpList_val (v := ?_) rfl ?_ ?_
  rotate_left
  · (go_simp; (try (first | with_reducible rfl | (constructor <;> with_reducible rfl))))
  (try simp only [Act.put, nA, nB, nC])
  refine wpList_nil ?_
  have S7 := Lib.hid N.out.2
  generalize (w5.alloc (.cells #[.int .i64 0, .int .i64 0, .int .i64 0, .int .i64 0, .int .i64 0, .int .i64 0, .int .i64 0, .int .i64 0, .int .i64 0, .int .i64 0, .int .i64 0] 49)).setRow w5.heap.size (arrv 11 a7B) = W5 at *
  clear N S6
  obtain ⟨b8, hb8⟩ : ∃ x, w5.heap.size = x := ⟨_, rfl⟩
  rw [hb8] at S7 ⊢
  clear hb8
  go_upto_region 10 with fail
  refine wp_region_lit ?_
  refine wpList_val (v := ?_) rfl ?_ ?_
  rotate_left
  · (go_simp; (try (first | with_reducible rfl | (constructor <;> with_reducible rfl))))
  (try simp only [Act.put, nA, nB, nC])
  refine wpList_val (v := ?_) rfl ?_ ?_
  rotate_left
  · (go_simp; (try (first | with_reducible rfl | (constructor <;> with_reducible rfl))))
  (try simp only [Act.put, nA, nB, nC])
  refine wpList_val (v := ?_) rfl ?_ ?_
  rotate_left
  · (refine Eq.trans (run_build_st1o (.const (.int .i64 1073741824)) (by rfl) (by rfl)) ?_; rw [a7_fills.1])
  (try simp only [Act.put, nA, nB, nC])
  refine wpList_val (v := ?_) rfl ?_ ?_
  rotate_left
  · (refine Eq.trans (run_build_imu2 (.const (.int .i64 1000000)) (.const (.int .i64 1000000)) (by rfl) (by rfl) (by rfl)) ?_; rw [a7_fills.2.2.1])
  (try simp only [Act.put, nA, nB, nC])
  refine wpList_step (fun K hK => ?_)
  go_simp
  (refine (push_ok ⟨bc, 0, none⟩ false pb 2 1073741824 0 (fun _ => a7B) v3 onSt a7I _ S7.out.fc S7.out.ff S7.out.pd S7.out.ne S7.out.nv (by decide) (by decide) (by decide) (by decide)).mono ?_); rintro e w6 ⟨v6, rfl, hr⟩; have S8 := Lib.hid (a7_pushF S7.out hr); clear hr S7
  (try dsimp only)
  (try simp only [Act.put, nA, nB, nC])
  refine hK _ _ ?_
  clear hK K
  refine wpList_val (v := ?_) rfl ?_ ?_
  rotate_left
  · (go_simp; (try (first | with_reducible rfl | (constructor <;> with_reducible rfl))))
  (try simp only [Act.put, nA, nB, nC])
  refine wpList_nil ?_
  go_upto_region 11 with fail
  refine wp_region_lit ?_
  refine wpList_val (v := ?_) rfl ?_ ?_
  rotate_left
  · (go_simp; (try (first | with_reducible rfl | (constructor <;> with_reducible rfl))))
  (try simp only [Act.put, nA, nB, nC])
  refine wpList_step (fun K hK => ?_)
  go_simp
  (refine (all_out pb 2 1073741824 2 a7L v6 _ S8.out.pd (by decide)).mono ?_); rintro e w7 ⟨vl, rfl, hb, ho, gl, hv, hg⟩; obtain ⟨cl, rfl, hcl, hS⟩ := S8.out.all hb ho hv hg; have S9 := Lib.hid hS; clear hb ho hv hg hS S8
  (try dsimp only)
  (try simp only [Act.put, nA, nB, nC])
  refine hK _ _ ?_
  clear hK K
  refine wpList_val (v := ?_) rfl ?_ ?_
  rotate_left
  · (go_simp; (try (first | with_reducible rfl | (constructor <;> with_reducible rfl))))
  (try simp only [Act.put, nA, nB, nC])
  refine wpList_nil ?_
  go_upto_region 12 with fail
  refine wp_region_lit ?_
  refine wpList_val (v := ?_) rfl ?_ ?_
  rotate_left
  · (go_simp; (try (first | with_reducible rfl | (constructor <;> with_reducible rfl))))
  (try simp only [Act.put, nA, nB, nC])
  refine wpList_val (v := ?_) rfl ?_ ?_
  rotate_left
  · (go_simp; (try (first | with_reducible rfl | (constructor <;> with_reducible rfl))))
  (try simp only [Act.put, nA, nB, nC])
  refine wpList_step (fun K hK => ?_)
  go_simp
  (refine (qone_any _).mono ?_); rintro e w8 ⟨rfl, hb⟩; have SA := Lib.hid (S9.out.down hb); clear hb S9
  (try dsimp only)
  (try simp only [Act.put, nA, nB, nC])
  refine hK _ _ ?_
  clear hK K
  refine wpList_val (v := ?_) rfl ?_ ?_
  rotate_left
  · (refine Eq.trans (run_build_v2o (.const (.int .i64 0)) (.const (.int .i64 5)) (by rfl) (by rfl) (by rfl)) ?_; with_reducible rfl)
  (try simp only [Act.put, nA, nB, nC])
  refine wpList_val (v := ?_) rfl ?_ ?_
  rotate_left
  · (refine Eq.trans (run_build_dl2 (.tmp 53) (.tmp 54) (by rfl) (by rfl) (by rfl)) ?_; rw [a7_fills.2.2.2])
  (try simp only [Act.put, nA, nB, nC])
  refine wpList_plain rfl (fun Kn hKn => wp_bsld1 (.tmp 55) (by rfl) (by rfl) (hKn _ _ ?_)); clear hKn Kn; have SB := Lib.hid (SA.out.lay 45 10 a7D); clear SA
  refine wpList_step (fun K hK => ?_)
  go_simp
  (refine (shift_one ⟨bc, 0, none⟩ false pb 2 1073741824 2 a7L v6 a7D w8.heap.size 1 _ SB.out.fc SB.out.ff SB.out.pd SB.out.ne SB.out.nv (by decide) a7_one SB.out.e0).mono ?_); rintro e w9 ⟨rfl, hr⟩; have SC := Lib.hid (a7_shiftF (SB.out.sub (E' := [⟨b8, 49, 11, a7B⟩, ⟨b6, 32, 24, a7S⟩]) (S' := [⟨gl, 2, a7L⟩]) (by simp) (by simp)) hr); clear hr SB
  (try dsimp only)
  (try simp only [Act.put, nA, nB, nC])
  refine hK _ _ ?_
  clear hK K
  refine wpList_nil ?_
  go_upto_region 13 with fail
  refine wp_region_lit ?_
  refine wpList_val (v := ?_) rfl ?_ ?_
  rotate_left
  · (go_simp; (try (first | with_reducible rfl | (constructor <;> with_reducible rfl))))
  (try simp only [Act.put, nA, nB, nC])
  refine wpList_step (fun K hK => ?_)
  go_simp
  (refine (all_out pb 2 1073741824 2 a7M v6 _ SC.out.pd (by decide)).mono ?_); rintro e wA ⟨vm, rfl, hb, ho, gm, hv, hg⟩; obtain ⟨cm, rfl, hcm, hS⟩ := SC.out.all hb ho hv hg; have SD := Lib.hid hS; clear hb ho hv hg hS SC
  (try dsimp only)
  (try simp only [Act.put, nA, nB, nC])
  refine hK _ _ ?_
  clear hK K
  refine wpList_val (v := ?_) rfl ?_ ?_
  rotate_left
  · (go_simp; (try (first | with_reducible rfl | (constructor <;> with_reducible rfl))))
  (try simp only [Act.put, nA, nB, nC])
  refine wpList_nil ?_
  have V0 := SD.out.e0
  have V1 := SD.out.e1
  have l10 := SD.out.s1 (i := 1) (j := 0) (by decide) (by decide)
  have l18 := SD.out.s1 (i := 1) (j := 8) (by decide) (by decide)
  have m09 := SD.out.s0 (i := 0) (j := 9) (by decide) (by decide)
  rw [show a7L 1 0 = 1000000 by decide] at l10
  rw [show a7L 1 8 = 1073741824 by decide] at l18
  rw [show a7M 0 9 = 5 by decide] at m09
  go_upto_region 14 with fail
  refine wp_region_lit ?_
  refine wpList_val (v := ?_) rfl ?_ ?_
  rotate_left
  · (go_simp; (try (first | with_reducible rfl | (constructor <;> with_reducible rfl))))
  (try simp only [Act.put, nA, nB, nC])
  refine wpList_val (v := ?_) rfl ?_ ?_
  rotate_left
  · (go_simp; (try (first | with_reducible rfl | (constructor <;> with_reducible rfl))))
  (try simp only [Act.put, nA, nB, nC])
  refine wpList_val (v := ?_) rfl ?_ ?_
  rotate_left
  · (go_simp; (try (first | with_reducible rfl | (constructor <;> with_reducible rfl))))
  (try simp only [Act.put, nA, nB, nC])
  first | (refine wpList_val (v := ?_) (by rfl) ?_ ?_; rotate_left; focus ((go_simp; (try (first | with_reducible rfl | (constructor <;> with_reducible rfl)))))) | refine wpList_skip (by rfl) ?_
  (try simp only [Act.put, nA, nB, nC])
  first | (refine wpList_val (v := ?_) (by rfl) ?_ ?_; rotate_left; focus ((go_simp; (try (first | with_reducible rfl | (constructor <;> with_reducible rfl)))))) | refine wpList_skip (by rfl) ?_
  (try simp only [Act.put, nA, nB, nC])
  refine wpList_val (v := ?_) rfl ?_ ?_
  rotate_left
  · (go_simp; (try (first | with_reducible rfl | (constructor <;> with_reducible rfl))))
  (try simp only [Act.put, nA, nB, nC])
  refine wpList_val (v := ?_) rfl ?_ ?_
  rotate_left
  · (go_simp; (try (first | with_reducible rfl | (constructor <;> with_reducible rfl))))
  (try simp only [Act.put, nA, nB, nC])
  first | (refine wpList_val (v := ?_) (by rfl) ?_ ?_; rotate_left; focus ((go_simp; (try (first | with_reducible rfl | (constructor <;> with_reducible rfl)))))) | refine wpList_skip (by rfl) ?_
  (try simp only [Act.put, nA, nB, nC])
  refine wpList_val (v := ?_) rfl ?_ ?_
  rotate_left
  · (go_simp; (try (first | with_reducible rfl | (constructor <;> with_reducible rfl))))
  (try simp only [Act.put, nA, nB, nC])
  refine wpList_val (v := ?_) rfl ?_ ?_
  rotate_left
  · (go_simp; (try (first | with_reducible rfl | (constructor <;> with_reducible rfl))))
  (try simp only [Act.put, nA, nB, nC])
  first | (refine wpList_val (v := ?_) (by rfl) ?_ ?_; rotate_left; focus ((go_simp; (try (first | with_reducible rfl | (constructor <;> with_reducible rfl)))))) | refine wpList_skip (by rfl) ?_
  (try simp only [Act.put, nA, nB, nC])
  first | (refine wpList_val (v := ?_) (by rfl) ?_ ?_; rotate_left; focus ((refine Eq.trans (run_load_sub 43 (.tmp 70) (by rfl) b8 5 3 (by rfl) V0 (by decide) _ Try.underlying43 rfl iv3) ?_; with_reducible rfl))) | refine wpList_skip (by rfl) ?_
  (try simp only [Act.put, nA, nB, nC])
  first | (refine wpList_val (v := ?_) (by rfl) ?_ ?_; rotate_left; focus ((refine Eq.trans (run_build_v1o (.const (.int .i64 1073741824)) (by rfl) (by rfl)) ?_; with_reducible rfl))) | refine wpList_skip (by rfl) ?_
  (try simp only [Act.put, nA, nB, nC])
  first | (refine wpList_val (v := ?_) (by rfl) ?_ ?_; rotate_left; focus ((refine Eq.trans (run_op_eqlVec Try.underlying43 (by kernel_rfl) (.tmp 71) (.tmp 72) (by rfl) (by rfl) (by rfl) (b := true) (by decide +kernel)) ?_; with_reducible rfl))) | refine wpList_skip (by rfl) ?_
  (try simp only [Act.put, nA, nB, nC])
  refine wpList_val (v := ?_) rfl ?_ ?_
  rotate_left
  · (go_simp; (try (first | with_reducible rfl | (constructor <;> with_reducible rfl))))
  (try simp only [Act.put, nA, nB, nC])
  refine wpList_val (v := ?_) rfl ?_ ?_
  rotate_left
  · (go_simp; (try (first | with_reducible rfl | (constructor <;> with_reducible rfl))))
  (try simp only [Act.put, nA, nB, nC])
  first | (refine wpList_val (v := ?_) (by rfl) ?_ ?_; rotate_left; focus ((go_simp; (try (first | with_reducible rfl | (constructor <;> with_reducible rfl)))))) | refine wpList_skip (by rfl) ?_
  (try simp only [Act.put, nA, nB, nC])
  first | (refine wpList_val (v := ?_) (by rfl) ?_ ?_; rotate_left; focus ((go_simp; (try (first | with_reducible rfl | (constructor <;> with_reducible rfl)))))) | refine wpList_skip (by rfl) ?_
  (try simp only [Act.put, nA, nB, nC])
  refine wpList_val (v := ?_) rfl ?_ ?_
  rotate_left
  · (go_simp; (try (first | with_reducible rfl | (constructor <;> with_reducible rfl))))
  (try simp only [Act.put, nA, nB, nC])
  refine wpList_val (v := ?_) rfl ?_ ?_
  rotate_left
  · (go_simp; (try (first | with_reducible rfl | (constructor <;> with_reducible rfl))))
  (try simp only [Act.put, nA, nB, nC])
  first | (refine wpList_val (v := ?_) (by rfl) ?_ ?_; rotate_left; focus ((go_simp; (try (first | with_reducible rfl | (constructor <;> with_reducible rfl)))))) | refine wpList_skip (by rfl) ?_
  (try simp only [Act.put, nA, nB, nC])
  first | (refine wpList_val (v := ?_) (by rfl) ?_ ?_; rotate_left; focus ((go_simp; (try (first | with_reducible rfl | (constructor <;> with_reducible rfl)))))) | refine wpList_skip (by rfl) ?_
  (try simp only [Act.put, nA, nB, nC])
  first | (refine wpList_val (v := ?_) (by rfl) ?_ ?_; rotate_left; focus ((go_simp; (try (first | with_reducible rfl | (constructor <;> with_reducible rfl)))))) | refine wpList_skip (by rfl) ?_
  (try simp only [Act.put, nA, nB, nC])
  refine wpList_val (v := ?_) rfl ?_ ?_
  rotate_left
  · (go_simp; (try (first | with_reducible rfl | (constructor <;> with_reducible rfl))))
  (try simp only [Act.put, nA, nB, nC])
  refine wpList_val (v := ?_) rfl ?_ ?_
  rotate_left
  · (go_simp; (try (first | with_reducible rfl | (constructor <;> with_reducible rfl))))
  (try simp only [Act.put, nA, nB, nC])
  first | (refine wpList_val (v := ?_) (by rfl) ?_ ?_; rotate_left; focus ((go_simp; (try (first | with_reducible rfl | (constructor <;> with_reducible rfl)))))) | refine wpList_skip (by rfl) ?_
  (try simp only [Act.put, nA, nB, nC])
  first | (refine wpList_val (v := ?_) (by rfl) ?_ ?_; rotate_left; focus ((go_simp; (try (first | with_reducible rfl | (constructor <;> with_reducible rfl)))))) | refine wpList_skip (by rfl) ?_
  (try simp only [Act.put, nA, nB, nC])
  first | (refine wpList_val (v := ?_) (by rfl) ?_ ?_; rotate_left; focus ((go_simp; (try (first | with_reducible rfl | (constructor <;> with_reducible rfl)))))) | refine wpList_skip (by rfl) ?_
  (try simp only [Act.put, nA, nB, nC])
  first | (refine wpList_val (v := ?_) (by rfl) ?_ ?_; rotate_left; focus ((go_simp; (try (first | with_reducible rfl | (constructor <;> with_reducible rfl)))))) | refine wpList_skip (by rfl) ?_
  (try simp only [Act.put, nA, nB, nC])
  first | (refine wpList_val (v := ?_) (by rfl) ?_ ?_; rotate_left; focus ((go_simp; (try (first | with_reducible rfl | (constructor <;> with_reducible rfl)))))) | refine wpList_skip (by rfl) ?_
  (try simp only [Act.put, nA, nB, nC])
  refine wpList_val (v := ?_) rfl ?_ ?_
  rotate_left
  · (go_simp; (try (first | with_reducible rfl | (constructor <;> with_reducible rfl))))
  (try simp only [Act.put, nA, nB, nC])
  refine wpList_val (v := ?_) rfl ?_ ?_
  rotate_left
  · (go_simp; (try (first | with_reducible rfl | (constructor <;> with_reducible rfl))))
  (try simp only [Act.put, nA, nB, nC])
  first | (refine wpList_val (v := ?_) (by rfl) ?_ ?_; rotate_left; focus ((go_simp; (try (first | with_reducible rfl | (constructor <;> with_reducible rfl)))))) | refine wpList_skip (by rfl) ?_
  (try simp only [Act.put, nA, nB, nC])
  first | (refine wpList_val (v := ?_) (by rfl) ?_ ?_; rotate_left; focus ((go_simp; (try (first | with_reducible rfl | (constructor <;> with_reducible rfl)))))) | refine wpList_skip (by rfl) ?_
  (try simp only [Act.put, nA, nB, nC])
  first | (refine wpList_val (v := ?_) (by rfl) ?_ ?_; rotate_left; focus ((go_simp; (try (first | with_reducible rfl | (constructor <;> with_reducible rfl)))))) | refine wpList_skip (by rfl) ?_
  (try simp only [Act.put, nA, nB, nC])
  first | (refine wpList_val (v := ?_) (by rfl) ?_ ?_; rotate_left; focus ((go_simp; (try (first | with_reducible rfl | (constructor <;> with_reducible rfl)))))) | refine wpList_skip (by rfl) ?_
  (try simp only [Act.put, nA, nB, nC])
  first | (refine wpList_val (v := ?_) (by rfl) ?_ ?_; rotate_left; focus ((go_simp; (try (first | with_reducible rfl | (constructor <;> with_reducible rfl)))))) | refine wpList_skip (by rfl) ?_
  (try simp only [Act.put, nA, nB, nC])
  first | (refine wpList_val (v := ?_) (by rfl) ?_ ?_; rotate_left; focus ((go_simp; (try (first | with_reducible rfl | (constructor <;> with_reducible rfl)))))) | refine wpList_skip (by rfl) ?_
  (try simp only [Act.put, nA, nB, nC])
  refine wpList_val (v := ?_) rfl ?_ ?_
  rotate_left
  · (go_simp; (try (first | with_reducible rfl | (constructor <;> with_reducible rfl))))
  (try simp only [Act.put, nA, nB, nC])
  refine wpList_val (v := ?_) rfl ?_ ?_
  rotate_left
  · (go_simp; (try (first | with_reducible rfl | (constructor <;> with_reducible rfl))))
  (try simp only [Act.put, nA, nB, nC])
  first | (refine wpList_val (v := ?_) (by rfl) ?_ ?_; rotate_left; focus ((go_simp; (try (first | with_reducible rfl | (constructor <;> with_reducible rfl)))))) | refine wpList_skip (by rfl) ?_
  (try simp only [Act.put, nA, nB, nC])
  first | (refine wpList_val (v := ?_) (by rfl) ?_ ?_; rotate_left; focus ((go_simp; (try (first | with_reducible rfl | (constructor <;> with_reducible rfl)))))) | refine wpList_skip (by rfl) ?_
  (try simp only [Act.put, nA, nB, nC])
  first | (refine wpList_val (v := ?_) (by rfl) ?_ ?_; rotate_left; focus ((go_simp; (try (first | with_reducible rfl | (constructor <;> with_reducible rfl)))))) | refine wpList_skip (by rfl) ?_
  (try simp only [Act.put, nA, nB, nC])
  refine wpList_val (v := ?_) rfl ?_ ?_
  rotate_left
  · (go_simp; (try (first | with_reducible rfl | (constructor <;> with_reducible rfl))))
  (try simp only [Act.put, nA, nB, nC])
  refine wpList_val (v := ?_) rfl ?_ ?_
  rotate_left
  · (go_simp; (try (first | with_reducible rfl | (constructor <;> with_reducible rfl))))
  (try simp only [Act.put, nA, nB, nC])
  first | (refine wpList_val (v := ?_) (by rfl) ?_ ?_; rotate_left; focus ((go_simp; (try (first | with_reducible rfl | (constructor <;> with_reducible rfl)))))) | refine wpList_skip (by rfl) ?_
  (try simp only [Act.put, nA, nB, nC])
  first | (refine wpList_val (v := ?_) (by rfl) ?_ ?_; rotate_left; focus ((go_simp; (try (first | with_reducible rfl | (constructor <;> with_reducible rfl)))))) | refine wpList_skip (by rfl) ?_
  (try simp only [Act.put, nA, nB, nC])
  first | (refine wpList_val (v := ?_) (by rfl) ?_ ?_; rotate_left; focus ((go_simp; (try (first | with_reducible rfl | (constructor <;> with_reducible rfl)))))) | refine wpList_skip (by rfl) ?_
  (try simp only [Act.put, nA, nB, nC])
  first | (refine wpList_val (v := ?_) (by rfl) ?_ ?_; rotate_left; focus ((go_simp; (try (first | with_reducible rfl | (constructor <;> with_reducible rfl)))))) | refine wpList_skip (by rfl) ?_
  (try simp only [Act.put, nA, nB, nC])
  first | (refine wpList_val (v := ?_) (by rfl) ?_ ?_; rotate_left; focus ((go_simp; (try (first | with_reducible rfl | (constructor <;> with_reducible rfl)))))) | refine wpList_skip (by rfl) ?_
  (try simp only [Act.put, nA, nB, nC])
  first | (refine wpList_val (v := ?_) (by rfl) ?_ ?_; rotate_left; focus ((go_simp; (try (first | with_reducible rfl | (constructor <;> with_reducible rfl)))))) | refine wpList_skip (by rfl) ?_
  (try simp only [Act.put, nA, nB, nC])
  refine wpList_val (v := ?_) rfl ?_ ?_
  rotate_left
  · (go_simp; (try (first | with_reducible rfl | (constructor <;> with_reducible rfl))))
  (try simp only [Act.put, nA, nB, nC])
  refine wpList_val (v := ?_) rfl ?_ ?_
  rotate_left
  · (go_simp; (try (first | with_reducible rfl | (constructor <;> with_reducible rfl))))
  (try simp only [Act.put, nA, nB, nC])
  first | (refine wpList_val (v := ?_) (by rfl) ?_ ?_; rotate_left; focus ((go_simp; (try (first | with_reducible rfl | (constructor <;> with_reducible rfl)))))) | refine wpList_skip (by rfl) ?_
  (try simp only [Act.put, nA, nB, nC])
  first | (refine wpList_val (v := ?_) (by rfl) ?_ ?_; rotate_left; focus (refine Eq.trans (run_load_row 32 (.tmp 6) (by rfl) (b6) (by rfl) _ _ _ _ (V1) Try.underlying32 rfl (ist.trans (by rw [arrv_size]))) ?_; with_reducible rfl)) | refine wpList_skip (by rfl) ?_
  (try simp only [Act.put, nA, nB, nC])
  refine wpList_step (fun K hK => ?_)
  go_simp
  (refine (outof_any ⟨bc, 0, none⟩ false a7S 7 _ SD.out.fc SD.out.ff).mono ?_); rintro e wB ⟨rfl, hu⟩; (rw [a7_outE.2] at hu); have SE := Lib.hid (SD.out.upd hu); clear hu SD
  (try dsimp only)
  (try simp only [Act.put, nA, nB, nC])
  refine hK _ _ ?_
  clear hK K
  refine wpList_step (fun K hK => ?_)
  go_simp
  (refine (qone_any _).mono ?_); rintro e wC ⟨rfl, hb⟩; have SF := Lib.hid (SE.out.down hb); clear hb SE; have fcc := SF.out.fc
  (try dsimp only)
  (try simp only [Act.put, nA, nB, nC])
  refine hK _ _ ?_
  clear hK K
  first | (refine wpList_val (v := ?_) (by rfl) ?_ ?_; rotate_left; focus ((refine Eq.trans (run_build_v1o (.const (.int .i64 1073741824)) (by rfl) (by rfl)) ?_; with_reducible rfl))) | refine wpList_skip (by rfl) ?_
  (try simp only [Act.put, nA, nB, nC])
  first | (refine wpList_val (v := ?_) (by rfl) ?_ ?_; rotate_left; focus ((refine Eq.trans (run_build_out3 (.const (.int .i64 7)) (.tmp 116) (.tmp 117) (by rfl) (by rfl) (by rfl) (by rfl)) ?_; with_reducible rfl))) | refine wpList_skip (by rfl) ?_
  (try simp only [Act.put, nA, nB, nC])
  first | (refine wpList_val (v := ?_) (by rfl) ?_ ?_; rotate_left; focus ((refine Eq.trans (run_op_eqlOut (.tmp 115) (.tmp 118) (by rfl) (by rfl) (by rfl) a7_outE.1) ?_; with_reducible rfl))) | refine wpList_skip (by rfl) ?_
  (try simp only [Act.put, nA, nB, nC])
  refine wpList_val (v := ?_) rfl ?_ ?_
  rotate_left
  · (go_simp; (try (first | with_reducible rfl | (constructor <;> with_reducible rfl))))
  (try simp only [Act.put, nA, nB, nC])
  refine wpList_val (v := ?_) rfl ?_ ?_
  rotate_left
  · (go_simp; (try (first | with_reducible rfl | (constructor <;> with_reducible rfl))))
  (try simp only [Act.put, nA, nB, nC])
  first | (refine wpList_val (v := ?_) (by rfl) ?_ ?_; rotate_left; focus ((go_simp; (try (first | with_reducible rfl | (constructor <;> with_reducible rfl)))))) | refine wpList_skip (by rfl) ?_
  (try simp only [Act.put, nA, nB, nC])
  first | (refine wpList_val (v := ?_) (by rfl) ?_ ?_; rotate_left; focus ((go_simp; (try (first | with_reducible rfl | (constructor <;> with_reducible rfl)))))) | refine wpList_skip (by rfl) ?_
  (try simp only [Act.put, nA, nB, nC])
  first | (refine wpList_val (v := ?_) (by rfl) ?_ ?_; rotate_left; focus ((go_simp; (try (first | with_reducible rfl | (constructor <;> with_reducible rfl)))))) | refine wpList_skip (by rfl) ?_
  (try simp only [Act.put, nA, nB, nC])
  first | (refine wpList_val (v := ?_) (by rfl) ?_ ?_; rotate_left; focus ((go_simp; (try (first | with_reducible rfl | (constructor <;> with_reducible rfl)))))) | refine wpList_skip (by rfl) ?_
  (try simp only [Act.put, nA, nB, nC])
  first | (refine wpList_val (v := ?_) (by rfl) ?_ ?_; rotate_left; focus ((go_simp; (try (first | with_reducible rfl | (constructor <;> with_reducible rfl)))))) | refine wpList_skip (by rfl) ?_
  (try simp only [Act.put, nA, nB, nC])
  refine wpList_val (v := ?_) rfl ?_ ?_
  rotate_left
  · (go_simp; (try (first | with_reducible rfl | (constructor <;> with_reducible rfl))))
  (try simp only [Act.put, nA, nB, nC])
  refine wpList_val (v := ?_) rfl ?_ ?_
  rotate_left
  · (go_simp; (try (first | with_reducible rfl | (constructor <;> with_reducible rfl))))
  (try simp only [Act.put, nA, nB, nC])
  refine wpList_nil ?_
  go_wp2_with fail
  go_ret
  exact ⟨rfl, SF.out.below⟩
end Go.Proofs.Ytpoiobgpggiebaa
