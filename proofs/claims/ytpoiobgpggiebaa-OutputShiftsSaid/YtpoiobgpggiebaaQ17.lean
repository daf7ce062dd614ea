/- Contracts of the program's functions and plain laws, part 17: they hold for all arguments. -/
import Derived.Test.YtpoiobgpggiebaaQ09
import Derived.Test.YtpoiobgpggiebaaQ16
import Derived.BigQuiet
import Derived.Test.YtpoiobgpggiebaaQ14
/- output.Push. -/
namespace Go.Proofs.Ytpoiobgpggiebaa
open Go.RowKit
open Go
set_option maxRecDepth 100000
section
variable {w w' : World} {pb : Nat} {z g : Int} {v : Value} {n : Nat} {L : Nat → Nat → Int}
theorem PdR.below (p : PdR w pb z g v n L) (b : Below w.heap.size w w') : PdR w' pb z g v n L := p.kept (X := fun _ => False) (Chg.below b) (fun h => h) (fun _ _ h => h)
theorem PdR.drew (p : PdR w pb z g v n L) : PdR w.drew pb z g v n L := p.below (Below.drew (Below.refl _ _))
theorem PdR.alloc (p : PdR w pb z g v n L) (o : Obj) : PdR (w.alloc o) pb z g v n L := p.below ((Below.refl _ _).alloc (Nat.le_refl _) o)
theorem PdR.upd {c : Addr} {h : Bool} (p : PdR w pb z g v n L) (u : Upd c h w w') (h1 : pb ≠ c.block) (h2 : ∀ k, v.ownBlock = some k → k ≠ c.block) : PdR w' pb z g v n L := p.kept (Chg.upd (X := fun k => k = c.block) u rfl) h1 h2
theorem PdR.row (p : PdR w pb z g v n L) {b : Nat} (F : Array Value) (h1 : pb ≠ b) (h2 : ∀ k, v.ownBlock = some k → k ≠ b) : PdR (w.setRow b F) pb z g v n L :=
  ⟨(Go.setRow_other w b pb F h1).trans p.blk, p.own.kept fun k _ hk => Go.setRow_other w b k F (h2 k hk.symm), p.ne⟩
theorem pd_last {gb cp m : Nat} (p : PdR w pb z g (.slice (some ⟨gb, 0, none⟩) (m + 1) cp) (m + 1) L) : ∀ j, j < 11 → w.cell? ⟨gb, m * 11 + j, none⟩ = some (.int .i64 (L m j)) := by
  intro j hj
  rcases p.own.form with ⟨h0, _⟩ | ⟨gb', cp', e, _, _, hL⟩
  · omega
  · injection e with e1 e2 e3; injection e1 with e1; injection e1 with e1; subst e1
    exact hL m (by omega) j hj
theorem ls_new {c : Addr} {h : Bool} {E : List Lx} {top : Nat} (s : LsR c h E top w w') (d : Nat) (e : w'.heap.size = d) : Blk (w'.alloc (.cells #[.int .i64 0, .int .i64 0, .int .i64 0, .int .i64 0, .int .i64 0, .int .i64 0, .int .i64 0, .int .i64 0, .int .i64 0, .int .i64 0, .int .i64 0] 49)) d 49 11 (fun _ => 0) ∧ top ≤ d := by
  subst e; rw [zou]; exact ⟨Blk.new _ _ _ _, s.le⟩
end

/-- What Push comes to. -/
def psL (z : Int) (m : Nat) (L : Nat → Nat → Int) (A : Nat → Int) : Nat → Nat → Int := if z < (m : Int) + 2 then fun i => if i + 1 < m + 1 then L (i + 1) else A else fun i => if i < m + 1 then L i else A
def psN (z : Int) (m : Nat) : Nat := if z < (m : Int) + 2 then m + 1 else m + 2
structure PwR (c : Addr) (h : Bool) (pb : Nat) (z g : Int) (v v' : Value) (n : Nat) (L : Nat → Nat → Int) (w wr : World) : Prop where
  pd : PdR wr pb z g v' n L
  cell : wr.cell? c = some (.bool h)
  free : wr.frozen? c = false
  chg : Chg (fun k => k = pb ∨ k = c.block ∨ v.ownBlock = some k) w wr
  own : ∃ gb, v'.ownBlock = some gb ∧ (w.heap.size ≤ gb ∨ v.ownBlock = some gb)
/-- Behind the append and the store. -/
theorem pw_app {c : Addr} {h : Bool} {E : List Lx} {top : Nat} {w w6 w7 : World} {pb : Nat} {z g : Int} {v : Value} {n n' g' cap : Nat} {L L' : Nat → Nat → Int} (s : LsR c h E top w w6) (p : PdR w6 pb z g v n L) (hcp : c.block ≠ pb) (hvc : ∀ k, v.ownBlock = some k → k ≠ c.block)
    (ho : OwnO w7 (.slice (some ⟨g', 0, none⟩) n' cap) n' L') (hg : w6.grownBy w7 v.ownBlock) (hat : v.ownBlock = some g' ∨ g' = w6.heap.size) :
    w7.cell? ⟨pb, 2, none⟩ = some v ∧ w7.frozen? ⟨pb, 2, none⟩ = false ∧ PwR c h pb z g v (.slice (some ⟨g', 0, none⟩) n' cap) n' L' w (w7.setCell ⟨pb, 2, none⟩ (.slice (some ⟨g', 0, none⟩) n' cap)) := by
  have hpb : w7.heap[pb]? = some (.cells #[.int .i64 z, .int .i64 g, v] 66 (0, 0)) := (hg.block pb p.lt (fun e => p.ne e.symm)).trans p.blk
  have hcl := World.block_lt_of_cell? _ _ s.cell
  have hne : g' ≠ pb := by
    rcases hat with h | h
    · exact fun e => p.ne (by rw [h, e])
    · have := p.lt; omega
  have P7 : PdR w7 pb z g (.slice none 0 0) 0 L ∨ True := .inr trivial
  have e := heap_setCell_same w7 pb 2 _ _ (.slice (some ⟨g', 0, none⟩) n' cap) hpb
  refine ⟨by rw [cell_of_row w7 pb 2 _ _ (0, 0) hpb]; rfl, frozen_of_row w7 pb 2 _ _ hpb, ⟨⟨e, ho.kept fun k _ hk => heap_setCell_other w7 _ k _ (fun e2 => hne ?_), by simp [Value.ownBlock]; exact hne⟩, ?_, ?_, ?_, ?_⟩⟩
  · simp [Value.ownBlock] at hk; rw [← hk, e2]
  · rw [World.cell?_of_block (heap_setCell_other w7 _ c.block _ hcp)]
    exact hg.cell s.cell (fun e2 => hvc _ e2.symm rfl)
  · rw [World.frozen?_of_block (heap_setCell_other w7 _ c.block _ hcp), World.frozen?_of_block (hg.block c.block hcl (fun e2 => hvc _ e2.symm rfl))]
    exact s.free
  · refine ((Chg.upd s.upd (.inr (.inl rfl))).then (Chg.grown (X := fun k => v.ownBlock = some k) hg (fun k hk => hk)) (fun i _ y => .inr (.inr y))).then (Y := fun k => k = pb) ?_ (fun i _ y => .inl y)
    exact ⟨rfl, rfl, rfl, by rw [setCell_size]; exact Nat.le_refl _, fun k _ hk => heap_setCell_other w7 _ k _ hk⟩
  · refine ⟨g', rfl, ?_⟩
    rcases hat with h | h
    · exact .inr h
    · left; have := s.lim; have := s.le; omega
/-- Behind the dropping of the first. -/
theorem pw_drop {c : Addr} {h : Bool} {w w1 w2 w3 : World} {pb : Nat} {z g : Int} {v v' : Value} {n n' g' cap : Nat} {L L' : Nat → Nat → Int} (p : PwR c h pb z g v v' n L w w1) (hcp : c.block ≠ pb)
    (b : Below w1.heap.size w1 w2) (ho : OwnO w3 (.slice (some ⟨g', 0, none⟩) n' cap) n' L') (hg : w2.grownBy w3 (some w1.heap.size)) (hat : w1.heap.size ≤ g') :
    w3.cell? ⟨pb, 2, none⟩ = some v' ∧ w3.frozen? ⟨pb, 2, none⟩ = false ∧ PwR c h pb z g v (.slice (some ⟨g', 0, none⟩) n' cap) n' L' w (w3.setCell ⟨pb, 2, none⟩ (.slice (some ⟨g', 0, none⟩) n' cap)) := by
  have hcl := World.block_lt_of_cell? _ _ p.cell
  have hpl := p.pd.lt
  have b3 : Below w1.heap.size w1 w3 := b.grown hg b.size (by intro k hk; injection hk with hk; omega)
  have P3 := p.pd.below b3
  have hne : g' ≠ pb := by omega
  have q := pd_set P3 ho (by simp [Value.ownBlock]; exact hne)
  refine ⟨P3.c2, P3.free 2, q.1, ?_, ?_, (p.chg.then (Chg.below (X := fun _ => False) b3) (fun _ _ y => y.elim)).then q.2 (fun i _ y => .inl y), g', rfl, .inl (Nat.le_trans p.chg.size hat)⟩
  · rw [World.cell?_of_block (q.2.block c.block (Nat.lt_of_lt_of_le hcl b3.size) hcp), b3.cell hcl]; exact p.cell
  · rw [World.frozen?_of_block (q.2.block c.block (Nat.lt_of_lt_of_le hcl b3.size) hcp), b3.frozen hcl]; exact p.free
end Go.Proofs.Ytpoiobgpggiebaa
/- output.Push: what it refuses, and what it does. -/
namespace Go.Proofs.Ytpoiobgpggiebaa
open Go.RowKit
open Go
set_option maxRecDepth 100000
theorem push_start {c : Addr} {h : Bool} {pb : Nat} {z g : Int} {v : Value} {n : Nat} {L : Nat → Nat → Int} (S I : Nat → Int) {w : World} (hc : w.cell? c = some (.bool h)) (hf : w.frozen? c = false) (hp : PdR w pb z g v n L) :
    LsR c h [⟨w.heap.size + 1, 35, 8, I⟩, ⟨w.heap.size, 32, 24, S⟩] (w.heap.size + 1 + 1) w ((w.alloc (.cells (arrv 24 S) 32)).alloc (.cells (arrv 8 I) 35)) ∧
    PdR ((w.alloc (.cells (arrv 24 S) 32)).alloc (.cells (arrv 8 I) 35)) pb z g v n L := by
  refine ⟨?_, (hp.alloc _).alloc _⟩
  simpa using ((ls_nil hc hf).lay 32 24 S).lay 35 8 I
set_option maxHeartbeats 8000000 in
theorem push_bad (c : Addr) (h : Bool) (pb : Nat) (z g : Int) (m : Nat) (L : Nat → Nat → Int) (v : Value) (S I : Nat → Int) (w : World) (hc : w.cell? c = some (.bool h)) (hf : w.frozen? c = false) (hp : PdR w pb z g v (m + 1) L) (hm : m < 1000) (hx : I 1 < 1 ∨ I 0 ≤ L m 0) :
    Calls Try.prog 11 #[.pointer (some ⟨pb, 0, none⟩), .pointer (some c), .agg (arrv 24 S), .agg (arrv 8 I)] w fun e w' => e = .returned (.int .i64 1) ∧ Upd c h w w' := by
  obtain ⟨gb, cp, rfl⟩ : ∃ gb cp, v = .slice (some ⟨gb, 0, none⟩) (m + 1) cp := by
    rcases hp.own.form with ⟨h0, _⟩ | ⟨gb, cp, e, _⟩
    · omega
    · exact ⟨gb, cp, e⟩
  have L0 := Lib.hid (push_start S I hc hf hp).1
  have P0 := Lib.hid (push_start S I hc hf hp).2
  have HX := Lib.hid hx
  clear hc hf hp hx
  go_enter Try.func11, Try.ntmps11
  go_upto_region 1 with fail
  generalize (w.alloc (.cells (arrv 24 S) 32)).alloc (.cells (arrv 8 I) 35) = W0 at *
  have c2 := P0.out.c2
  have k0 : (0 : Int) ≤ (m : Int) := Int.natCast_nonneg _
  have k1 : (m : Int) < 1000 := by omega
  have kw : IntKind.i64.wrap (m : Int) = (m : Int) := IntWalk.i64_in _ (by omega)
  have k2 : (m : Int) < (m : Int) + 1 := by omega
  go_upto_region 3 with fail
  have HS := Lib.hid L0.out.drew
  have HP := Lib.hid P0.out.drew
  clear L0 P0 c2
  (try simp only [Act.put])
  go_cut [9] from 16 to 28 (fun s9 wx => ∃ b, s9 = .pointer (some ⟨b, 0, none⟩) ∧ Hid (LsR c h [⟨b, 49, 11, L m⟩, ⟨w.heap.size + 1, 35, 8, I⟩, ⟨w.heap.size, 32, 24, S⟩] (b + 1) w wx) ∧ w.heap.size + 1 + 1 ≤ b)
  case first =>
    refine wp_region_M (fun w' => w'.cell? ⟨pb, 2, none⟩ = some (.slice (some ⟨gb, 0, none⟩) (m + 1) cp) ∧ ∀ j, j < 11 → w'.cell? ⟨gb, m * 11 + j, none⟩ = some (.int .i64 (L m j))) 13 (by kernel_rfl) ?_ (fun hHeld => ?_)
    · exact ⟨HP.out.c2, pd_last HP.out⟩
    refine wpAnyM_take 0 (v := ?_) rfl (by kernel_rfl) (fun _ _ _ h => h) (Or.inl ⟨by rfl, ?_⟩) (by assumption) ?_
    rotate_left
    · (intro wx hSw; (try dsimp only at hSw); go_simp; (try with_reducible rfl))
    (try simp only [Act.put, nA, nB, nC])
    refine wpAnyM_take 1 (v := ?_) rfl (by kernel_rfl) (fun _ _ _ h => h) (Or.inl ⟨by rfl, ?_⟩) (by assumption) ?_
    rotate_left
    · (intro wx hSw; (try dsimp only at hSw); go_simp; (try with_reducible rfl))
    (try simp only [Act.put, nA, nB, nC])
    refine wpAnyM_take 2 (v := ?_) rfl (by kernel_rfl) (fun _ _ _ h => h) (Or.inl ⟨by rfl, ?_⟩) (by assumption) ?_
    rotate_left
    · (intro wx hSw; (try dsimp only at hSw); go_simp; (try with_reducible rfl))
    (try simp only [Act.put, nA, nB, nC])
    refine wpAnyM_take 3 (v := ?_) rfl (by kernel_rfl) (fun _ _ _ h => h) (Or.inl ⟨by rfl, ?_⟩) (by assumption) ?_
    rotate_left
    · (intro wx hSw; have c3 := hSw.1; go_simp; with_reducible rfl)
    (try simp only [Act.put, nA, nB, nC])
    refine wpAnyM_take 4 (v := ?_) rfl (by kernel_rfl) (fun _ _ _ h => h) (Or.inl ⟨by rfl, ?_⟩) (by assumption) ?_
    rotate_left
    · (intro wx hSw; (try dsimp only at hSw); go_simp; (try with_reducible rfl))
    (try simp only [Act.put, nA, nB, nC])
    refine wpAnyM_take 5 (v := ?_) rfl (by kernel_rfl) (fun _ _ _ h => h) (Or.inl ⟨by rfl, ?_⟩) (by assumption) ?_
    rotate_left
    · (intro wx hSw; (try dsimp only at hSw); go_simp; (try with_reducible rfl))
    (try simp only [Act.put, nA, nB, nC])
    refine wpAnyM_take 6 (v := ?_) rfl (by kernel_rfl) (fun _ _ _ h => h) (Or.inl ⟨by rfl, ?_⟩) (by assumption) ?_
    rotate_left
    · (intro wx hSw; (try dsimp only at hSw); go_simp; (try with_reducible rfl))
    (try simp only [Act.put, nA, nB, nC])
    refine wpAnyM_take 7 (v := ?_) rfl (by kernel_rfl) (fun _ _ _ h => h) (Or.inl ⟨by rfl, ?_⟩) (by assumption) ?_
    rotate_left
    · (intro wx hSw; have c3 := hSw.1; go_simp; with_reducible rfl)
    (try simp only [Act.put, nA, nB, nC])
    refine wpAnyM_take 8 (v := ?_) rfl (by kernel_rfl) (fun _ _ _ h => h) (Or.inl ⟨by rfl, ?_⟩) (by assumption) ?_
    rotate_left
    · (intro wx hSw; (try dsimp only at hSw); go_simp; (try with_reducible rfl))
    (try simp only [Act.put, nA, nB, nC])
    refine wpAnyM_take 9 (v := ?_) rfl (by kernel_rfl) (fun _ _ _ h => h) (Or.inl ⟨by rfl, ?_⟩) (by assumption) ?_
    rotate_left
    · (intro wx hSw; (try dsimp only at hSw); go_simp; (try with_reducible rfl))
    (try simp only [Act.put, nA, nB, nC])
    refine wpAnyM_take 10 (v := ?_) rfl (by kernel_rfl) (fun _ _ _ h => h) (Or.inl ⟨by rfl, ?_⟩) (by assumption) ?_
    rotate_left
    · (intro wx hSw; (try dsimp only at hSw); go_simp; (try with_reducible rfl))
    (try simp only [Act.put, nA, nB, nC])
    refine wpAnyM_take 11 (v := ?_) rfl (by kernel_rfl) (fun _ _ _ h => h) (Or.inl ⟨by rfl, ?_⟩) (by assumption) ?_
    rotate_left
    · (intro wx hSw; refine Eq.trans (run_load_out (.tmp 26) (by rfl) gb (m * 11) (by rfl) (L m) hSw.2) ?_; with_reducible rfl)
    (try simp only [Act.put, nA, nB, nC])
    refine wpAnyM_oneS 12 rfl (by kernel_rfl) (fun K hK => ?_)
    go_simp; have HA := Lib.hid (ls_new HS.out _ (by first | (simp; rfl) | rfl)); have HS2 := Lib.hid (HS.out.alloc (.cells #[.int .i64 0, .int .i64 0, .int .i64 0, .int .i64 0, .int .i64 0, .int .i64 0, .int .i64 0, .int .i64 0, .int .i64 0, .int .i64 0, .int .i64 0] 49)); clear HS; have HS := HS2; clear HS2; have HP2 := Lib.hid (HP.out.alloc (.cells #[.int .i64 0, .int .i64 0, .int .i64 0, .int .i64 0, .int .i64 0, .int .i64 0, .int .i64 0, .int .i64 0, .int .i64 0, .int .i64 0, .int .i64 0] 49)); clear HP; have HP := HP2; clear HP2
    clear hHeld
    refine hK.out _ _ ?_ (fun hHeld => ?_)
    · exact ⟨HP.out.c2, pd_last HP.out⟩
    clear hK K
    (try simp only [Act.put, nA, nB, nC])
    refine wpAnyM_doneL 13 rfl (by kernel_rfl) (by rfl) (by kernel_rfl) (run_store_row 49 (.tmp 9) (.tmp 27) rfl _ rfl rfl HA.out.1 (iou.trans rfl)) ?_
    (try simp only [Act.put, nA, nB, nC])
    refine wpAnyM_done (by kernel_rfl) ?_ _
    (have HE := Lib.hid (HS.out.fill HA.out.1 HA.out.2 (L m)); have hge := HA.out.2; go_wp2_with fail; go_meet; exact ⟨_, rfl, HE, hge⟩)
  case rest =>
  obtain ⟨lb, rfl, HB, hlb⟩ := hcut
  clear HS HP
  have i0 := HB.out.e1.cell (i := 0) (by decide)
  have i1 := HB.out.e1.cell (i := 1) (by decide)
  have l0 := HB.out.e0.cell (i := 0) (by decide)
  by_cases h1 : I 1 < 1
  · have d1 : decide (I 1 < 1) = true := by simpa using h1
    clear h1 HX
    go_wp2_with fail
    go_ret
    exact ⟨rfl, HB.out.upd⟩
  · have d1 : decide (I 1 < 1) = false := by simpa using h1
    have d2 : decide (I 0 ≤ L m 0) = true := by
      rcases HX.out with e | e
      · exact absurd e h1
      · simpa using e
    clear h1 HX
    go_wp2_with fail
    go_ret
    exact ⟨rfl, HB.out.upd⟩
end Go.Proofs.Ytpoiobgpggiebaa
/- output.Push: an output more. -/
namespace Go.Proofs.Ytpoiobgpggiebaa
open Go.RowKit
open Go
set_option maxRecDepth 100000
theorem osl_und : Try.prog.underlying 38 = some (.slice (Try.prog.elem 38)) := by kernel_rfl
theorem osl_size (w : World) : (sizeOf (Try.prog.elem 38)).run Try.prog w = .ok 11 w := by kernel_rfl
theorem run_slice_drop {o : Oper} {ev : Operand → Value} {w : World} (x : Operand) (ho : o.op = .slice 38 x (some (.const (.int .i64 1))) none none) (hev : ev (.const (.int .i64 1)) = .int .i64 1) (g n cp : Nat) (hx : ev x = .slice (some ⟨g, 0, none⟩) (n + 1 + 1) cp) (hc : n + 1 + 1 ≤ cp) :
    (execOp ev o).run Try.prog w = .ok (.value (.slice (some ⟨g, 11, none⟩) (n + 1) (cp - 1))) w := by
  unfold execOp
  simp only [ho, hx, hev, Option.map_none, Option.map_some]
  rw [Sem.run_bind, run_sliceAt_slice _ _ _ _ _ _ osl_und, run_slice_l _ _ _ _ _ osl_und .i64 1 (by omega) (by omega), osl_size]
  simp only [Result.andThen_ok, sliced]
  rw [if_neg (by simp; omega)]
  simp [Addr.add, go_sem]
theorem run_store_pd {o : Oper} {ev : Operand → Value} {w : World} (x y : Operand) (ho : o.op = .store 38 x y) (pb : Nat) (hx : ev x = .pointer (some ⟨pb, 2, none⟩)) {q : Option Addr} {n cp : Nat} (hy : ev y = .slice q n cp) {v0 : Value} (hc : w.cell? ⟨pb, 2, none⟩ = some v0) (hf : w.frozen? ⟨pb, 2, none⟩ = false) :
    (execOp ev o).run Try.prog w = .ok .skip (w.setCell ⟨pb, 2, none⟩ (.slice q n cp)) := by
  unfold execOp
  simp only [ho, hx, hy]
  simp [go_sem, Instr.storeAt, Instr.sureAddr, hc, hf]
theorem wp_appOut {o : Oper} {a : Act} {w : World} {K : Act → World → Prop} {Q : Exit → Act → World → Prop} (s x : Operand)
    (ho : o.op = .call { callee := .builtin .append, args := #[s, x], argTypes := #[38, 38] })
    {v : Value} {n : Nat} {L : Nat → Nat → Int} (hs : a.eval s = v) (hown : OwnO w v n L) (nb c : Nat) (hx : a.eval x = .slice (some ⟨nb, 0, none⟩) 1 c) (A : Nat → Int) (hA : Blk w nb 49 11 A) (hn : n + 1 ≤ 1000000)
    (h : ∀ g cap w', OwnO w' (.slice (some ⟨g, 0, none⟩) (n + 1) cap) (n + 1) (fun i => if i < n then L i else A) → w.grownBy w' v.ownBlock → (v.ownBlock = some g ∨ g = w.heap.size) → K (a.put o.dst (.slice (some ⟨g, 0, none⟩) (n + 1) cap)) w') : o.wp Try.prog a w K Q := by
  obtain ⟨g, cap, w', hr, h1, h2, h3, h4⟩ := run_appOut hown nb 0 c 1 (fun _ => A) (fun i hi j hj => by
    obtain rfl : i = 0 := by omega
    rw [Nat.zero_mul, Nat.zero_add, Nat.zero_add]; exact hA.cell hj) (by omega) hn o.type _ rfl
  unfold Oper.wp execOp
  simp only [ho, resolve, invoke, builtin, Sem.run_bind, Sem.run_pure, Result.andThen_ok, List.map_toArray, List.map_cons, List.map_nil, hs, hx, hr]
  exact h g cap w' h1 h2 h3
end Go.Proofs.Ytpoiobgpggiebaa
/- output.Push: an output more, the walk. -/
namespace Go.Proofs.Ytpoiobgpggiebaa
open Go.RowKit
open Go
set_option maxRecDepth 100000
/-- Blocks laid before the append are what they were. -/
theorem ls_grown {c : Addr} {h : Bool} {E : List Lx} {top : Nat} {w w6 w7 : World} {v : Value} (s : LsR c h E top w w6) (hg : w6.grownBy w7 v.ownBlock) (hv : ∀ k, v.ownBlock = some k → k < w.heap.size) {b T n : Nat} {F : Nat → Int} (hb : Blk w6 b T n F) (h1 : w.heap.size ≤ b) : Blk w7 b T n F :=
  (hg.block b hb.lt (fun e => by have := hv b e.symm; omega)).trans hb
theorem pd_fill {w wr : World} {pb : Nat} {z g : Int} {v : Value} {n : Nat} {L : Nat → Nat → Int} (p : PdR wr pb z g v n L) {top d : Nat} (ha : top ≤ d) (hl : w.heap.size ≤ top) (hpb : pb < w.heap.size) (hv : ∀ k, v.ownBlock = some k → k < w.heap.size) (F : Array Value) : PdR (wr.setRow d F) pb z g v n L :=
  p.row F (by omega) fun k hk => by have := hv k hk; omega
theorem own_cap {w : World} {g n cap : Nat} {L : Nat → Nat → Int} (h : OwnO w (.slice (some ⟨g, 0, none⟩) n cap) n L) : n ≤ cap := by
  rcases h.2 with ⟨hv, _⟩ | ⟨g', cap', cur, hv, _, _, h1, _⟩
  · cases hv
  · injection hv with e1 e2 e3; omega
theorem own_lt {c : Addr} {h : Bool} {pb : Nat} {z g : Int} {v : Value} {g' n cap : Nat} {L : Nat → Nat → Int} {w wr : World} (p : PwR c h pb z g v (.slice (some ⟨g', 0, none⟩) n cap) n L w wr) : g' < wr.heap.size := p.pd.own.lt rfl
theorem PwR.down {c : Addr} {h : Bool} {pb : Nat} {z g : Int} {v v' : Value} {n : Nat} {L : Nat → Nat → Int} {w wr w' : World} (p : PwR c h pb z g v v' n L w wr) (b : Below wr.heap.size wr w') : PwR c h pb z g v v' n L w w' :=
  ⟨p.pd.below b, (b.cell (World.block_lt_of_cell? _ _ p.cell)).trans p.cell, (b.frozen (World.block_lt_of_cell? _ _ p.cell)).trans p.free, p.chg.then (Chg.below (X := fun _ => False) b) (fun _ _ y => y.elim), p.own⟩
theorem pw_cells {c : Addr} {h : Bool} {pb : Nat} {z g : Int} {v : Value} {g' m cap : Nat} {L : Nat → Nat → Int} {A : Nat → Int} {w wr : World} (p : PwR c h pb z g v (.slice (some ⟨g', 0, none⟩) (m + 1 + 1) cap) (m + 1 + 1) (fun i => if i < m + 1 then L i else A) w wr) :
    g' < wr.heap.size ∧ ∀ i, i < m + 1 → ∀ j, j < 11 → wr.cell? ⟨g', 11 + (i * 11 + j), none⟩ = some (.int .i64 ((if i + 1 < m + 1 then L (i + 1) else A) j)) := by
  rcases p.pd.own.form with ⟨h0, _⟩ | ⟨g2, cp, e, hl, _, hL⟩
  · omega
  · injection e with e1 e2 e3; injection e1 with e1; injection e1 with e1; subst e1
    refine ⟨hl, fun i hi j hj => ?_⟩
    have := hL (i + 1) (by omega) j hj
    rw [show (i + 1) * 11 + j = 11 + (i * 11 + j) by omega] at this
    exact this
/-- What Push makes. -/
def psA (S : Nat → Int) (O I : Nat → Int) : Nat → Int := ofF (stepN (poF S O) I) (I 0)
def psH (S : Nat → Int) (O I : Nat → Int) : Bool := stepH2 (poF S O) I || keepH (stepN (poF S O) I)
set_option maxHeartbeats 16000000 in
theorem push_ok (c : Addr) (h : Bool) (pb : Nat) (z g : Int) (m : Nat) (L : Nat → Nat → Int) (v : Value) (S I : Nat → Int) (w : World) (hc : w.cell? c = some (.bool h)) (hf : w.frozen? c = false) (hp : PdR w pb z g v (m + 1) L) (hcp : c.block ≠ pb) (hvc : ∀ k, v.ownBlock = some k → k ≠ c.block) (hm : m < 1000) (hx : ¬ I 1 < 1) (hy : ¬ I 0 ≤ L m 0) (hz : z ≤ 1000) :
    Calls Try.prog 11 #[.pointer (some ⟨pb, 0, none⟩), .pointer (some c), .agg (arrv 24 S), .agg (arrv 8 I)] w fun e w' => ∃ v', e = .returned (.int .i64 0) ∧ PwR c (h || psH S (L m) I) pb z g v v' (psN z m) (psL z m L (psA S (L m) I)) w w' := by
  obtain ⟨gb, cp, rfl⟩ : ∃ gb cp, v = .slice (some ⟨gb, 0, none⟩) (m + 1) cp := by
    rcases hp.own.form with ⟨h0, _⟩ | ⟨gb, cp, e, _⟩
    · omega
    · exact ⟨gb, cp, e⟩
  have L0 := Lib.hid (push_start S I hc hf hp).1
  have P0 := Lib.hid (push_start S I hc hf hp).2
  have HC := Lib.hid hcp
  have HV := Lib.hid hvc
  have HW := Lib.hid (show ∀ k, (Value.slice (some ⟨gb, 0, none⟩) (m + 1) cp).ownBlock = some k → k < w.heap.size from fun k hk => hp.own.lt hk)
  have HL := Lib.hid hp.lt
  have d1 : decide (I 1 < 1) = false := by simpa using hx
  have d2 : decide (I 0 ≤ L m 0) = false := by simpa using hy
  clear hc hf hp hcp hvc hx hy
  have HA0 : psA S (L m) I = ofF (stepN (poF S (L m)) I) (I 0) ∧ (h || psH S (L m) I) = ((h || stepH2 (poF S (L m)) I) || keepH (stepN (poF S (L m)) I)) := ⟨rfl, by unfold psH; rw [Bool.or_assoc]⟩
  obtain ⟨PO, hPO⟩ : ∃ x, poF S (L m) = x := ⟨_, rfl⟩
  rw [hPO] at HA0
  obtain ⟨ST, hST⟩ : ∃ x, stepN PO I = x := ⟨_, rfl⟩
  obtain ⟨H1, hH1⟩ : ∃ x, (h || stepH2 PO I) = x := ⟨_, rfl⟩
  rw [hST, hH1] at HA0
  obtain ⟨A, hA⟩ : ∃ x, ofF ST (I 0) = x := ⟨_, rfl⟩
  obtain ⟨H2, hH2⟩ : ∃ x, (H1 || keepH ST) = x := ⟨_, rfl⟩
  rw [hA, hH2] at HA0
  rw [HA0.1, HA0.2]
  have NP := Lib.hid hPO
  have NS := Lib.hid (And.intro hST hH1)
  have NA := Lib.hid (And.intro hA hH2)
  clear hPO hST hH1 hA hH2 HA0
  go_enter Try.func11, Try.ntmps11
  go_upto_region 1 with fail
  generalize (w.alloc (.cells (arrv 24 S) 32)).alloc (.cells (arrv 8 I) 35) = W0 at *
  have c2 := P0.out.c2
  have k0 : (0 : Int) ≤ (m : Int) := Int.natCast_nonneg _
  have k1 : (m : Int) < 1000 := by omega
  have kw : IntKind.i64.wrap (m : Int) = (m : Int) := IntWalk.i64_in _ (by omega)
  have k2 : (m : Int) < (m : Int) + 1 := by omega
  go_upto_region 3 with fail
  have HS := Lib.hid L0.out.drew
  have HP := Lib.hid P0.out.drew
  clear L0 P0 c2
  (try simp only [Act.put])
  go_cut [9] from 16 to 28 (fun s9 wx => ∃ b, s9 = .pointer (some ⟨b, 0, none⟩) ∧ Hid (LsR c h [⟨b, 49, 11, L m⟩, ⟨w.heap.size + 1, 35, 8, I⟩, ⟨w.heap.size, 32, 24, S⟩] (b + 1) w wx) ∧ w.heap.size + 1 + 1 ≤ b ∧ Hid (PdR wx pb z g (.slice (some ⟨gb, 0, none⟩) (m + 1) cp) (m + 1) L))
  case first =>
    refine wp_region_M (fun w' => w'.cell? ⟨pb, 2, none⟩ = some (.slice (some ⟨gb, 0, none⟩) (m + 1) cp) ∧ ∀ j, j < 11 → w'.cell? ⟨gb, m * 11 + j, none⟩ = some (.int .i64 (L m j))) 13 (by kernel_rfl) ?_ (fun hHeld => ?_)
    · exact ⟨HP.out.c2, pd_last HP.out⟩
    refine wpAnyM_take 0 (v := ?_) rfl (by kernel_rfl) (fun _ _ _ h => h) (Or.inl ⟨by rfl, ?_⟩) (by assumption) ?_
    rotate_left
    · (intro wx hSw; (try dsimp only at hSw); go_simp; (try with_reducible rfl))
    (try simp only [Act.put, nA, nB, nC])
    refine wpAnyM_take 1 (v := ?_) rfl (by kernel_rfl) (fun _ _ _ h => h) (Or.inl ⟨by rfl, ?_⟩) (by assumption) ?_
    rotate_left
    · (intro wx hSw; (try dsimp only at hSw); go_simp; (try with_reducible rfl))
    (try simp only [Act.put, nA, nB, nC])
    refine wpAnyM_take 2 (v := ?_) rfl (by kernel_rfl) (fun _ _ _ h => h) (Or.inl ⟨by rfl, ?_⟩) (by assumption) ?_
    rotate_left
    · (intro wx hSw; (try dsimp only at hSw); go_simp; (try with_reducible rfl))
    (try simp only [Act.put, nA, nB, nC])
    refine wpAnyM_take 3 (v := ?_) rfl (by kernel_rfl) (fun _ _ _ h => h) (Or.inl ⟨by rfl, ?_⟩) (by assumption) ?_
    rotate_left
    · (intro wx hSw; have c3 := hSw.1; go_simp; with_reducible rfl)
    (try simp only [Act.put, nA, nB, nC])
    refine wpAnyM_take 4 (v := ?_) rfl (by kernel_rfl) (fun _ _ _ h => h) (Or.inl ⟨by rfl, ?_⟩) (by assumption) ?_
    rotate_left
    · (intro wx hSw; (try dsimp only at hSw); go_simp; (try with_reducible rfl))
    (try simp only [Act.put, nA, nB, nC])
    refine wpAnyM_take 5 (v := ?_) rfl (by kernel_rfl) (fun _ _ _ h => h) (Or.inl ⟨by rfl, ?_⟩) (by assumption) ?_
    rotate_left
    · (intro wx hSw; (try dsimp only at hSw); go_simp; (try with_reducible rfl))
    (try simp only [Act.put, nA, nB, nC])
    refine wpAnyM_take 6 (v := ?_) rfl (by kernel_rfl) (fun _ _ _ h => h) (Or.inl ⟨by rfl, ?_⟩) (by assumption) ?_
    rotate_left
    · (intro wx hSw; (try dsimp only at hSw); go_simp; (try with_reducible rfl))
    (try simp only [Act.put, nA, nB, nC])
    refine wpAnyM_take 7 (v := ?_) rfl (by kernel_rfl) (fun _ _ _ h => h) (Or.inl ⟨by rfl, ?_⟩) (by assumption) ?_
    rotate_left
    · (intro wx hSw; have c3 := hSw.1; go_simp; with_reducible rfl)
    (try simp only [Act.put, nA, nB, nC])
    refine wpAnyM_take 8 (v := ?_) rfl (by kernel_rfl) (fun _ _ _ h => h) (Or.inl ⟨by rfl, ?_⟩) (by assumption) ?_
    rotate_left
    · (intro wx hSw; (try dsimp only at hSw); go_simp; (try with_reducible rfl))
    (try simp only [Act.put, nA, nB, nC])
    refine wpAnyM_take 9 (v := ?_) rfl (by kernel_rfl) (fun _ _ _ h => h) (Or.inl ⟨by rfl, ?_⟩) (by assumption) ?_
    rotate_left
    · (intro wx hSw; (try dsimp only at hSw); go_simp; (try with_reducible rfl))
    (try simp only [Act.put, nA, nB, nC])
    refine wpAnyM_take 10 (v := ?_) rfl (by kernel_rfl) (fun _ _ _ h => h) (Or.inl ⟨by rfl, ?_⟩) (by assumption) ?_
    rotate_left
    · (intro wx hSw; (try dsimp only at hSw); go_simp; (try with_reducible rfl))
    (try simp only [Act.put, nA, nB, nC])
    refine wpAnyM_take 11 (v := ?_) rfl (by kernel_rfl) (fun _ _ _ h => h) (Or.inl ⟨by rfl, ?_⟩) (by assumption) ?_
    rotate_left
    · (intro wx hSw; refine Eq.trans (run_load_out (.tmp 26) (by rfl) gb (m * 11) (by rfl) (L m) hSw.2) ?_; with_reducible rfl)
    (try simp only [Act.put, nA, nB, nC])
    refine wpAnyM_oneS 12 rfl (by kernel_rfl) (fun K hK => ?_)
    go_simp; have HA := Lib.hid (ls_new HS.out _ (by first | (simp; rfl) | rfl)); have HS2 := Lib.hid (HS.out.alloc (.cells #[.int .i64 0, .int .i64 0, .int .i64 0, .int .i64 0, .int .i64 0, .int .i64 0, .int .i64 0, .int .i64 0, .int .i64 0, .int .i64 0, .int .i64 0] 49)); clear HS; have HS := HS2; clear HS2; have HP2 := Lib.hid (HP.out.alloc (.cells #[.int .i64 0, .int .i64 0, .int .i64 0, .int .i64 0, .int .i64 0, .int .i64 0, .int .i64 0, .int .i64 0, .int .i64 0, .int .i64 0, .int .i64 0] 49)); clear HP; have HP := HP2; clear HP2
    clear hHeld
    refine hK.out _ _ ?_ (fun hHeld => ?_)
    · exact ⟨HP.out.c2, pd_last HP.out⟩
    clear hK K
    (try simp only [Act.put, nA, nB, nC])
    refine wpAnyM_doneL 13 rfl (by kernel_rfl) (by rfl) (by kernel_rfl) (run_store_row 49 (.tmp 9) (.tmp 27) rfl _ rfl rfl HA.out.1 (iou.trans rfl)) ?_
    (try simp only [Act.put, nA, nB, nC])
    refine wpAnyM_done (by kernel_rfl) ?_ _
    (have HE := Lib.hid (HS.out.fill HA.out.1 HA.out.2 (L m)); have hge := HA.out.2; have HQ := Lib.hid (pd_fill HP.out HA.out.2 (by omega) HL.out HW.out (arrv 11 (L m))); go_wp2_with fail; go_meet; exact ⟨_, rfl, HE, hge, HQ⟩)
  case rest =>
  obtain ⟨lb, rfl, HB, hlb, HQ⟩ := hcut
  clear HS HP
  have i0 := HB.out.e1.cell (i := 0) (by decide)
  have i1 := HB.out.e1.cell (i := 1) (by decide)
  have l0 := HB.out.e0.cell (i := 0) (by decide)
  go_upto_region 6 with fail
  clear i0 i1 l0 d1 d2
  have HS := Lib.hid HB.out.drew
  have HP := Lib.hid HQ.out.drew
  clear HB HQ
  (try simp only [Act.put])
  go_cut [] from 38 to 57 (fun wx => ∃ g' cap', g' < wx.heap.size ∧ m + 1 + 1 ≤ cap' ∧ Hid (PwR c H2 pb z g (.slice (some ⟨gb, 0, none⟩) (m + 1) cp) (.slice (some ⟨g', 0, none⟩) (m + 1 + 1) cap') (m + 1 + 1) (fun i => if i < m + 1 then L i else A) w wx))
  case first =>
    refine wp_region_M (fun w' => w'.cell? ⟨pb, 2, none⟩ = some (.slice (some ⟨gb, 0, none⟩) (m + 1) cp) ∧ Blk w' w.heap.size 32 24 S ∧ Blk w' lb 49 11 (L m) ∧ Blk w' (w.heap.size + 1) 35 8 I) 19 (by kernel_rfl) ?_ (fun hHeld => ?_)
    · first | exact ⟨HP.out.c2, HS.out.e2, HS.out.e0, HS.out.e1⟩ | exact HK.out
    refine wpAnyM_take 0 (v := ?_) rfl (by kernel_rfl) (fun _ _ _ h => h) (Or.inl ⟨by rfl, ?_⟩) (by assumption) ?_
    rotate_left
    · (intro wx hSw; (try dsimp only at hSw); go_simp; (try with_reducible rfl))
    (try simp only [Act.put, nA, nB, nC])
    refine wpAnyM_take 1 (v := ?_) rfl (by kernel_rfl) (fun _ _ _ h => h) (Or.inl ⟨by rfl, ?_⟩) (by assumption) ?_
    rotate_left
    · (intro wx hSw; (try dsimp only at hSw); go_simp; (try with_reducible rfl))
    (try simp only [Act.put, nA, nB, nC])
    refine wpAnyM_take 2 (v := ?_) rfl (by kernel_rfl) (fun _ _ _ h => h) (Or.inl ⟨by rfl, ?_⟩) (by assumption) ?_
    rotate_left
    · (intro wx hSw; (try dsimp only at hSw); go_simp; (try with_reducible rfl))
    (try simp only [Act.put, nA, nB, nC])
    refine wpAnyM_take 3 (v := ?_) rfl (by kernel_rfl) (fun _ _ _ h => h) (Or.inl ⟨by rfl, ?_⟩) (by assumption) ?_
    rotate_left
    · (intro wx hSw; (try dsimp only at hSw); go_simp; (try with_reducible rfl))
    (try simp only [Act.put, nA, nB, nC])
    refine wpAnyM_take 4 (v := ?_) rfl (by kernel_rfl) (fun _ _ _ h => h) (Or.inl ⟨by rfl, ?_⟩) (by assumption) ?_
    rotate_left
    · (intro wx hSw; have c3 := hSw.1; go_simp; with_reducible rfl)
    (try simp only [Act.put, nA, nB, nC])
    refine wpAnyM_take 5 (v := ?_) rfl (by kernel_rfl) (fun _ _ _ h => h) (Or.inl ⟨by rfl, ?_⟩) (by assumption) ?_
    rotate_left
    · (intro wx hSw; (try dsimp only at hSw); go_simp; (try with_reducible rfl))
    (try simp only [Act.put, nA, nB, nC])
    refine wpAnyM_take 6 (v := ?_) rfl (by kernel_rfl) (fun _ _ _ h => h) (Or.inl ⟨by rfl, ?_⟩) (by assumption) ?_
    rotate_left
    · (intro wx hSw; (try dsimp only at hSw); go_simp; (try with_reducible rfl))
    (try simp only [Act.put, nA, nB, nC])
    refine wpAnyM_take 7 (v := ?_) rfl (by kernel_rfl) (fun _ _ _ h => h) (Or.inl ⟨by rfl, ?_⟩) (by assumption) ?_
    rotate_left
    · (intro wx hSw; refine Eq.trans (run_load_row 32 (.tmp 6) (by rfl) (w.heap.size) (by rfl) _ _ _ _ (hSw.2.1) Try.underlying32 rfl (ist.trans (by rw [arrv_size]))) ?_; with_reducible rfl)
    (try simp only [Act.put, nA, nB, nC])
    refine wpAnyM_take 8 (v := ?_) rfl (by kernel_rfl) (fun _ _ _ h => h) (Or.inl ⟨by rfl, ?_⟩) (by assumption) ?_
    rotate_left
    · (intro wx hSw; refine Eq.trans (run_load_row 49 (.tmp 9) (by rfl) (lb) (by rfl) _ _ _ _ (hSw.2.2.1) Try.underlying49 rfl (iou.trans (by rw [arrv_size]))) ?_; with_reducible rfl)
    (try simp only [Act.put, nA, nB, nC])
    refine wpAnyM_take 10 (v := ?_) rfl (by kernel_rfl) (fun _ _ _ h => h) (Or.inl ⟨by rfl, ?_⟩) (by assumption) ?_
    rotate_left
    · (intro wx hSw; refine Eq.trans (run_load_row 35 (.tmp 7) (by rfl) (w.heap.size + 1) (by rfl) _ _ _ _ (hSw.2.2.2) Try.underlying35 rfl (iimu.trans (by rw [arrv_size]))) ?_; with_reducible rfl)
    (try simp only [Act.put, nA, nB, nC])
    refine wpAnyM_take 12 (v := ?_) rfl (by kernel_rfl) (fun _ _ _ h => h) (Or.inl ⟨by rfl, ?_⟩) (by assumption) ?_
    rotate_left
    · (intro wx hSw; (try dsimp only at hSw); go_simp; (try with_reducible rfl))
    (try simp only [Act.put, nA, nB, nC])
    refine wpAnyM_take 13 (v := ?_) rfl (by kernel_rfl) (fun _ _ _ h => h) (Or.inl ⟨by rfl, ?_⟩) (by assumption) ?_
    rotate_left
    · (intro wx hSw; have i0 := hSw.2.2.2.cell (i := 0) (by decide); go_simp; with_reducible rfl)
    (try simp only [Act.put, nA, nB, nC])
    refine wpAnyM_oneS 9 rfl (by kernel_rfl) (fun K hK => ?_)
    go_simp
    (refine (put_any S (L m) _).mono ?_); (rw [NP.out]); rintro e w4 ⟨rfl, hb⟩; have HS2 := Lib.hid (HS.out.down hb); have HP2 := Lib.hid (HP.out.below hb); clear HS HP hb; have HS := HS2; have HP := HP2; clear HS2 HP2
    (try dsimp only)
    (try simp only [Act.put, nA, nB, nC])
    clear hHeld
    refine hK.out _ _ ?_ (fun hHeld => ?_)
    · first | exact ⟨HP.out.c2, HS.out.e2, HS.out.e0, HS.out.e1⟩ | exact HK.out
    clear hK K
    (try simp only [Act.put, nA, nB, nC])
    refine wpAnyM_oneS 11 rfl (by kernel_rfl) (fun K hK => ?_)
    go_simp
    (refine (step_any2 c h PO I _ HS.out.cell HS.out.free).mono ?_); (rw [NS.out.1, NS.out.2]); rintro e w5 ⟨rfl, hu⟩; have HS2 := Lib.hid (HS.out.upd' hu); have HP2 := Lib.hid (HP.out.upd hu (fun e => HC.out e.symm) HV.out); clear HS HP hu; have HS := HS2; have HP := HP2; clear HS2 HP2
    (try dsimp only)
    (try simp only [Act.put, nA, nB, nC])
    clear hHeld
    refine hK.out _ _ ?_ (fun hHeld => ?_)
    · first | exact ⟨HP.out.c2, HS.out.e2, HS.out.e0, HS.out.e1⟩ | exact HK.out
    clear hK K
    (try simp only [Act.put, nA, nB, nC])
    refine wpAnyM_oneS 14 rfl (by kernel_rfl) (fun K hK => ?_)
    go_simp
    (refine (outof_any c H1 ST (I 0) _ HS.out.cell HS.out.free).mono ?_); (rw [NA.out.1, NA.out.2]); rintro e w6 ⟨rfl, hu⟩; have HS2 := Lib.hid (HS.out.upd' hu); have HP2 := Lib.hid (HP.out.upd hu (fun e => HC.out e.symm) HV.out); clear HS HP hu; have HS := HS2; have HP := HP2; clear HS2 HP2
    (try dsimp only)
    (try simp only [Act.put, nA, nB, nC])
    clear hHeld
    refine hK.out _ _ ?_ (fun hHeld => ?_)
    · first | exact ⟨HP.out.c2, HS.out.e2, HS.out.e0, HS.out.e1⟩ | exact HK.out
    clear hK K
    (try simp only [Act.put, nA, nB, nC])
    refine wpAnyM_oneS 15 rfl (by kernel_rfl) (fun K hK => ?_)
    refine if_pos_of (by rfl) (wp_bslo1 (.tmp 52) rfl rfl ?_); have HN := Lib.hid (Blk.new w6 49 11 A); have HS2 := Lib.hid (HS.out.alloc (.cells (arrv 11 A) 49)); have HP2 := Lib.hid (HP.out.alloc (.cells (arrv 11 A) 49)); clear HS HP; have HS := HS2; have HP := HP2; clear HS2 HP2
    clear hHeld
    refine hK.out _ _ ?_ (fun hHeld => ?_)
    · first | exact ⟨HP.out.c2, HS.out.e2, HS.out.e0, HS.out.e1⟩ | exact HK.out
    clear hK K
    (try simp only [Act.put, nA, nB, nC])
    refine wpAnyM_oneS 16 rfl (by kernel_rfl) (fun K hK => ?_)
    refine if_pos_of (by rfl) (wp_appOut (.tmp 42) (.tmp 53) rfl rfl HP.out.own _ 1 rfl A HN.out (by omega) ?_); intro g' cap' w7 ho hg hat; have HT := Lib.hid (pw_app HS.out HP.out HC.out HV.out ho hg hat); have HK := Lib.hid (And.intro ((hg.cell HP.out.c2 (fun e => HP.out.ne e.symm))) (And.intro (ls_grown HS.out hg HW.out HS.out.e2 (Nat.le_refl _)) (And.intro (ls_grown HS.out hg HW.out HS.out.e0 (by omega)) (ls_grown HS.out hg HW.out HS.out.e1 (by omega))))); have hcap := own_cap ho; clear HS HP HN ho hg hat
    clear hHeld
    refine hK.out _ _ ?_ (fun hHeld => ?_)
    · first | exact ⟨HP.out.c2, HS.out.e2, HS.out.e0, HS.out.e1⟩ | exact HK.out
    clear hK K
    (try simp only [Act.put, nA, nB, nC])
    refine wpAnyM_takeW 17 (v := ?_) rfl (by kernel_rfl) (fun _ _ _ h => h) (Or.inl ⟨by rfl, ?_⟩) (.inr (by assumption)) ?_
    rotate_left
    · (intro wx hSw; (try dsimp only at hSw); go_simp; (try with_reducible rfl))
    (try simp only [Act.put, nA, nB, nC])
    refine wpAnyM_take 18 (v := ?_) rfl (by kernel_rfl) (fun _ _ _ h => h) (Or.inl ⟨by rfl, ?_⟩) (by assumption) ?_
    rotate_left
    · (intro wx hSw; (try dsimp only at hSw); go_simp; (try with_reducible rfl))
    (try simp only [Act.put, nA, nB, nC])
    refine wpAnyM_doneL 19 rfl (by kernel_rfl) (by rfl) (by kernel_rfl) (run_store_pd (.tmp 56) (.tmp 54) rfl pb rfl rfl HT.out.1 HT.out.2.1) ?_
    (try simp only [Act.put, nA, nB, nC])
    refine wpAnyM_done (by kernel_rfl) ?_ _
    (have HE := Lib.hid HT.out.2.2; have hll := own_lt HE.out; go_wp2_with fail; go_meet; exact ⟨_, _, hll, hcap, HE⟩)
  case rest =>
  obtain ⟨g', cap', hgl, hcap, HE⟩ := hcut
  clear HS HP
  have e2 := HE.out.pd.c2
  have e0 := HE.out.pd.c0
  by_cases h3 : z < (m : Int) + 2
  · have d3 : decide (z < (m : Int) + 1 + 1) = true := by simp; omega
    have HN := Lib.hid h3
    clear h3
    go_upto_region 7 with fail
    go_quiet (fail)
    have HD := Lib.hid (HE.out.down (below_drewN (Below.refl _ _) nq))
    clear HE e2 e0
    have hcl := pw_cells HD.out
    generalize wc.drewN nq = W5 at *
    have e2 := HD.out.pd.c2
    have c3 := (((Below.refl W5.heap.size W5).alloc (Nat.le_refl _) (.cells #[] 49)).cell (p := ⟨pb, 2, none⟩) HD.out.pd.lt).trans e2
    have B0 := Lib.hid ((Below.refl W5.heap.size W5).alloc (Nat.le_refl _) (.cells #[] 49))
    have E0 := Lib.hid (own_empty W5 (fun i => if i + 1 < m + 1 then L (i + 1) else A))
    go_upto_region 8 with fail
    refine wp_region_lit ?_
    refine wpList_val (v := ?_) rfl ?_ ?_
    rotate_left
    · (go_simp; (try (first | with_reducible rfl | (constructor <;> with_reducible rfl))))
    (try simp only [Act.put, nA, nB, nC])
    refine wpList_plain rfl (fun Kn hKn => wp_bslo0 (by rfl) (hKn _ _ ?_)); clear hKn Kn
    refine wpList_val (v := ?_) rfl ?_ ?_
    rotate_left
    · (go_simp; (try (first | with_reducible rfl | (constructor <;> with_reducible rfl))))
    (try simp only [Act.put, nA, nB, nC])
    refine wpList_val (v := ?_) rfl ?_ ?_
    rotate_left
    · (go_simp; (try (first | with_reducible rfl | (constructor <;> with_reducible rfl))))
    (try simp only [Act.put, nA, nB, nC])
    refine wpList_val (v := ?_) rfl ?_ ?_
    rotate_left
    · (go_simp; (try (first | with_reducible rfl | (constructor <;> with_reducible rfl))))
    (try simp only [Act.put, nA, nB, nC])
    refine wpList_val (v := ?_) rfl ?_ ?_
    rotate_left
    · (go_simp; (try (first | with_reducible rfl | (constructor <;> with_reducible rfl))))
    (try simp only [Act.put, nA, nB, nC])
    refine wpList_val (v := ?_) rfl ?_ ?_
    rotate_left
    · (refine Eq.trans (run_slice_drop (.tmp 72) (by rfl) (by rfl) g' m cap' (by rfl) hcap) ?_; with_reducible rfl)
    (try simp only [Act.put, nA, nB, nC])
    refine wpList_plain rfl (fun Kn hKn => wp_appAllO (.tmp 68) (.tmp 73) (by rfl) W5.heap.size (some ⟨g', 11, none⟩) (m + 1) (cap' - 1) (fun i => if i + 1 < m + 1 then L (i + 1) else A) (by rfl) (by rfl) E0.out (fun _ => ⟨g', 11, rfl, fun i hi j hj => (B0.out.cell (p := ⟨g', 11 + (i * 11 + j), none⟩) hcl.1).trans (hcl.2 i hi j hj)⟩) (by omega) (by simp) (fun gn capn w1 ho hg hat => hKn _ _ ?_)); clear hKn Kn; have HT := Lib.hid (pw_drop HD.out HC.out B0.out ho hg (by rcases hat with rfl | rfl <;> simp)); clear ho hg hat
    refine wpList_val (v := ?_) rfl ?_ ?_
    rotate_left
    · (go_simp; (try (first | with_reducible rfl | (constructor <;> with_reducible rfl))))
    (try simp only [Act.put, nA, nB, nC])
    refine wpList_val (v := ?_) rfl ?_ ?_
    rotate_left
    · (go_simp; (try (first | with_reducible rfl | (constructor <;> with_reducible rfl))))
    (try simp only [Act.put, nA, nB, nC])
    refine wpList_done (w' := ?_) rfl ?_ ?_
    rotate_left
    · (refine Eq.trans (run_store_pd (.tmp 76) (.tmp 74) (by rfl) pb (by rfl) (by rfl) HT.out.1 HT.out.2.1) ?_; with_reducible rfl)
    (try simp only [Act.put, nA, nB, nC])
    refine wpList_nil ?_
    have HE := Lib.hid HT.out.2.2
    clear HT
    generalize w1.setCell ⟨pb, 2, none⟩ (.slice (some ⟨gn, 0, none⟩) (m + 1) capn) = W6 at *
    go_wp2_with fail
    go_ret
    refine ⟨.slice (some ⟨gn, 0, none⟩) (m + 1) capn, rfl, ?_⟩
    unfold psN psL
    rw [if_pos HN.out, if_pos HN.out]
    exact HE.out
  · have d3 : decide (z < (m : Int) + 1 + 1) = false := by simp; omega
    have HN := Lib.hid h3
    clear h3
    go_upto_region 7 with fail
    go_quiet (fail)
    go_wp2_with fail
    go_ret
    refine ⟨rfl, .slice (some ⟨g', 0, none⟩) (m + 1 + 1) cap', ?_⟩
    have hnn : ¬ z < (m : Int) + 2 := by have := HN.out; omega
    unfold psN psL
    rw [if_neg hnn, if_neg hnn]
    exact HE.out.down (below_drewN (Below.refl _ _) _)
end Go.Proofs.Ytpoiobgpggiebaa
/- output.each: every output becomes another one. -/
namespace Go.Proofs.Ytpoiobgpggiebaa
open Go.RowKit
open Go
set_option maxRecDepth 100000
theorem run_store_out {ev : Operand → Value} {o' : Oper} {w w' : World} (x y : Operand) (ho : o'.op = .store 49 x y)
    (g o : Nat) (hx : ev x = .pointer (some ⟨g, o, none⟩)) {F : Nat → Int} (hy : ev y = .agg (arrv 11 F)) (h : (storeCells ⟨g, o, none⟩ (arrv 11 F).toList).run Try.prog w = .ok () w') :
    (execOp ev o').run Try.prog w = .ok .skip w' := by
  have hi := iou
  have hs : (storeVar 49 ⟨g, o, none⟩ (.agg (arrv 11 F))).run Try.prog w = .ok () w' := by
    cases hq : Try.prog.info? 49 with
    | none => simp [hq] at hi
    | some i =>
      have hs : 11 = i.size := by simp [hq] at hi; omega
      simp [storeVar, sizeOf, typeInfo, hq, ← hs, Value.cells, arrv_size, go_sem, h]
  unfold execOp
  simp only [ho, hx, hy, Instr.storeAt, Instr.sureAddr, Sem.run_bind, Sem.run_pure, Result.andThen_ok, hs]
/-- What becomes of one. -/
def eaF (f : (Nat → Int) → Nat → Int) (O : Nat → Int) : Nat → Int := ofF (poF (fun _ => 0) (f O)) (O 0)
def eaH (f : (Nat → Int) → Nat → Int) (fH : (Nat → Int) → Bool) (O : Nat → Int) : Bool := fH O || keepH (poF (fun _ => 0) (f O))
def eaL (f : (Nat → Int) → Nat → Int) (L : Nat → Nat → Int) (k : Nat) : Nat → Nat → Int := fun i => if i < k then eaF f (L i) else L i
structure EaR (c : Addr) (h : Bool) (pb : Nat) (z g : Int) (v : Value) (n : Nat) (L : Nat → Nat → Int) (w wr : World) : Prop where
  pd : PdR wr pb z g v n L
  cell : wr.cell? c = some (.bool h)
  free : wr.frozen? c = false
  chg : Chg (fun k => k = c.block ∨ v.ownBlock = some k) w wr
theorem ea_step {c : Addr} {h h' : Bool} {pb : Nat} {z g : Int} {gb n cap k : Nat} {L : Nat → Nat → Int} {w wr w6 : World} (hcp : c.block ≠ pb) (hvc : gb ≠ c.block) (r : EaR c h pb z g (.slice (some ⟨gb, 0, none⟩) n cap) n L w wr) {E : List Lx} {top : Nat} (s : LsR c h' E top wr w6) (hk : k < n) (A : Nat → Int) :
    ∃ w7, (storeCells ⟨gb, k * 11, none⟩ (arrv 11 A).toList).run Try.prog w6 = .ok () w7 ∧ EaR c h' pb z g (.slice (some ⟨gb, 0, none⟩) n cap) n (updO L k A) w w7 := by
  have hpg : pb ≠ gb := fun e => r.pd.ne (by rw [e]; rfl)
  have p6 := r.pd.upd s.upd (fun e => hcp e.symm) (fun k hk => by simp [Value.ownBlock] at hk; omega)
  obtain ⟨w7, h1, h2, h3, h4⟩ := own_put p6.own hk A
  refine ⟨w7, h1, ⟨(h3.block pb p6.lt (by simp; exact hpg)).trans p6.blk, h2, r.pd.ne⟩, ?_, ?_, (r.chg.then (Chg.upd (X := fun k => k = c.block) s.upd rfl) (fun _ _ e => .inl e)).then (Chg.grown (X := fun k => k = gb) h3 (fun k e => by injection e with e; exact e.symm)) (fun _ _ e => .inr (by rw [e]; rfl))⟩
  · exact h3.cell s.cell (by simp; exact fun e => hvc e.symm)
  · rw [World.frozen?_of_block (h3.block c.block (World.block_lt_of_cell? _ _ s.cell) (by simp; exact fun e => hvc e.symm))]; exact s.free
theorem ea_cells {c : Addr} {h : Bool} {pb : Nat} {z g : Int} {gb n cap k : Nat} {f : (Nat → Int) → Nat → Int} {L : Nat → Nat → Int} {w wr : World} (r : EaR c h pb z g (.slice (some ⟨gb, 0, none⟩) n cap) n (eaL f L k) w wr) (hk : k < n) : ∀ j, j < 11 → wr.cell? ⟨gb, k * 11 + j, none⟩ = some (.int .i64 (L k j)) := by
  intro j hj
  rcases r.pd.own.form with ⟨h0, _⟩ | ⟨gb', cp', e, _, _, hL⟩
  · omega
  · injection e with e1 e2 e3; injection e1 with e1; injection e1 with e1; subst e1
    have := hL k hk j hj
    unfold eaL at this
    rwa [if_neg (Nat.lt_irrefl k)] at this
theorem ea_succ (f : (Nat → Int) → Nat → Int) (L : Nat → Nat → Int) (k : Nat) : eaL f L (k + 1) = updO (eaL f L k) k (ofF (poF (fun _ => 0) (f (L k))) (L k 0)) := by
  funext i
  unfold eaL updO
  by_cases h : i = k
  · subst h; rw [if_pos (by omega), if_pos rfl]; rfl
  · rw [if_neg h]
    show (if i < k + 1 then eaF f (L i) else L i) = (if i < k then eaF f (L i) else L i)
    by_cases h2 : i < k
    · rw [if_pos h2, if_pos (by omega)]
    · rw [if_neg h2, if_neg (by omega)]
theorem run_build_st0o {o : Oper} {ev : Operand → Value} {w : World} (ho : o.op = .build 32 #[]) : (execOp ev o).run Try.prog w = .ok (.value (.agg (arrv 24 (fun _ => 0)))) w := by
  unfold execOp
  simp only [ho, List.map_toArray, List.map_nil]
  kernel_rfl
set_option maxHeartbeats 8000000 in
theorem each_out (c : Addr) (h : Bool) (pb : Nat) (z g : Int) (n : Nat) (L : Nat → Nat → Int) (v : Value) (fid : FuncId) (caps : Array Value) (f : (Nat → Int) → Nat → Int) (fH : (Nat → Int) → Bool) (w : World) (hc : w.cell? c = some (.bool h)) (hf : w.frozen? c = false) (hp : PdR w pb z g v n L) (hcp : c.block ≠ pb) (hvc : ∀ k, v.ownBlock = some k → k ≠ c.block) (hn : n ≤ 1000)
    (hCF : ∀ (args : Array Value) (x : World), (callFunc fid args).run Try.prog x = .ok (.enter fid args) x)
    (hF : ∀ (w' : World) (h' : Bool) (O : Nat → Int), Chg (fun k => k = c.block ∨ v.ownBlock = some k) w w' → w'.cell? c = some (.bool h') → w'.frozen? c = false → Calls Try.prog fid (#[.agg (arrv 11 O)] ++ caps) w' fun e w'' => e = .returned (.agg (arrv 11 (f O))) ∧ Upd c (h' || fH O) w' w'') :
    Calls Try.prog 32 #[.pointer (some ⟨pb, 0, none⟩), .pointer (some c), .func (.func fid) #[] caps] w fun e w' => e = .returned (.tuple #[]) ∧ EaR c (h || orB (fun i => eaH f fH (L i)) n) pb z g v n (eaL f L n) w w' := by
  have R0 := Lib.hid (show EaR c (h || orB (fun i => eaH f fH (L i)) 0) pb z g v n (eaL f L 0) w w from ⟨by unfold eaL; simpa using hp, by rw [hc]; simp [orB], hf, Chg.refl _ _⟩)
  obtain ⟨q, cp, rfl, hq⟩ : ∃ q cp, v = .slice q n cp ∧ (0 < n → ∃ gb, q = some ⟨gb, 0, none⟩) := by
    rcases hp.own.form with ⟨rfl, e⟩ | ⟨gb, cp, e, _⟩
    · exact ⟨none, 0, e, fun h => by omega⟩
    · exact ⟨_, cp, e, fun _ => ⟨gb, rfl⟩⟩
  have c2 := hp.c2
  have HF := Lib.hid hF
  have HCF := Lib.hid hCF
  clear hCF
  have HC := Lib.hid hcp
  have HV := Lib.hid hvc
  have HQ := Lib.hid hq
  clear hc hf hp hcp hvc hF hq
  go_enter Try.func32, Try.ntmps32
  go_upto_region 1 with fail
  go_loopw [13] (fun i wr => ∃ k : Nat, k ≤ n ∧ i = .int .i64 k ∧ Hid (EaR c (h || orB (fun i => eaH f fH (L i)) k) pb z g (.slice q n cp) n (eaL f L k) w wr)) (fun i _ => n - (intOf i).toNat)
  case atStart => exact ⟨0, Nat.zero_le _, by go_num, R0⟩
  case round =>
    obtain ⟨k, hk, rfl, R⟩ := hrel
    have k0 : (0 : Int) ≤ (k : Int) := Int.natCast_nonneg _
    by_cases hlt : k < n
    · obtain ⟨gb, rfl⟩ := HQ.out (by omega)
      have d1 : decide (k < n) = true := by simpa using hlt
      have d2 : decide ((k : Int) < (n : Int)) = true := by simpa using hlt
      have k1 : (k : Int) < (n : Int) := by omega
      have k3 : (n : Int) ≤ 1000 := by omega
      have C0 := Lib.hid (ea_cells R.out hlt)
      have HK := Lib.hid (show (h || orB (fun i => eaH f fH (L i)) (k + 1)) = ((h || orB (fun i => eaH f fH (L i)) k) || fH (L k) || keepH (poF (fun _ => 0) (f (L k)))) ∧ eaL f L (k + 1) = updO (eaL f L k) k (ofF (poF (fun _ => 0) (f (L k))) (L k 0)) from ⟨by simp [orB, eaH, Bool.or_assoc], ea_succ f L k⟩)
      obtain ⟨H, hH⟩ : ∃ x, (h || orB (fun i => eaH f fH (L i)) k) = x := ⟨_, rfl⟩
      rw [hH] at R HK
      obtain ⟨LK, hLK⟩ : ∃ x, eaL f L k = x := ⟨_, rfl⟩
      rw [hLK] at R HK
      obtain ⟨O, hO⟩ : ∃ x, L k = x := ⟨_, rfl⟩
      rw [hO] at HK C0
      clear hH hLK hO
      go_upto_region 2 with fail
      refine wp_region_lit ?_
      refine wpList_val (v := ?_) rfl ?_ ?_
      rotate_left
      · (go_simp; (try (first | with_reducible rfl | (constructor <;> with_reducible rfl))))
      (try simp only [Act.put, nA, nB, nC])
      refine wpList_val (v := ?_) rfl ?_ ?_
      rotate_left
      · (go_simp; (try (first | with_reducible rfl | (constructor <;> with_reducible rfl))))
      (try simp only [Act.put, nA, nB, nC])
      refine wpList_val (v := ?_) rfl ?_ ?_
      rotate_left
      · (refine Eq.trans (run_load_out (.tmp 16) (by rfl) gb (k * 11) (by rfl) O C0.out) ?_; with_reducible rfl)
      (try simp only [Act.put, nA, nB, nC])
      refine wpList_act (v := ?_) (w' := ?_) rfl ?_ ?_
      rotate_left 2
      · (go_simp; (try (first | with_reducible rfl | (constructor <;> with_reducible rfl))))
      (try simp only [Act.put, nA, nB, nC])
      refine wpList_val (v := ?_) rfl ?_ ?_
      rotate_left
      · (go_simp; (try (first | with_reducible rfl | (constructor <;> with_reducible rfl))))
      (try simp only [Act.put, nA, nB, nC])
      refine wpList_done (w' := ?_) rfl ?_ ?_
      rotate_left
      · (refine Eq.trans (run_store_row 49 (.tmp 7) (.tmp 17) (by rfl) (wr.heap.size) (by rfl) (by rfl) (show Blk (wr.alloc (.cells #[.int .i64 0, .int .i64 0, .int .i64 0, .int .i64 0, .int .i64 0, .int .i64 0, .int .i64 0, .int .i64 0, .int .i64 0, .int .i64 0, .int .i64 0] 49)) wr.heap.size 49 11 (fun _ => 0) by rw [zou]; exact Blk.new _ _ _ _) (iou.trans rfl)) ?_; with_reducible rfl)
      (try simp only [Act.put, nA, nB, nC])
      refine wpList_nil ?_
      have L1 := Lib.hid (show LsR c H [⟨wr.heap.size, 49, 11, O⟩] (wr.heap.size + 1) wr ((wr.alloc (.cells #[.int .i64 0, .int .i64 0, .int .i64 0, .int .i64 0, .int .i64 0, .int .i64 0, .int .i64 0, .int .i64 0, .int .i64 0, .int .i64 0, .int .i64 0] 49)).setRow wr.heap.size (arrv 11 O)) by rw [zou]; exact (ls_nil R.out.cell R.out.free).put 49 11 (fun _ => 0) O)
      have P1 := Lib.hid (R.out.pd.upd L1.out.upd (fun e => HC.out e.symm) HV.out)
      generalize (wr.alloc (.cells #[.int .i64 0, .int .i64 0, .int .i64 0, .int .i64 0, .int .i64 0, .int .i64 0, .int .i64 0, .int .i64 0, .int .i64 0, .int .i64 0, .int .i64 0] 49)).setRow wr.heap.size (arrv 11 O) = W1 at *
      clear C0
      go_upto_region 3 with fail
      have HS := Lib.hid L1.out.drew
      have HP := Lib.hid P1.out.drew
      clear L1 P1
      (try simp only [Act.put])
      obtain ⟨FO, hFO⟩ : ∃ x, f O = x := ⟨_, rfl⟩
      rw [hFO] at HK
      obtain ⟨HFO, hHFO⟩ : ∃ x, (H || fH O) = x := ⟨_, rfl⟩
      rw [hHFO] at HK
      obtain ⟨PF, hPF⟩ : ∃ x, poF (fun _ => 0) FO = x := ⟨_, rfl⟩
      rw [hPF] at HK
      have FC := Lib.hid (fun (x : World) (a : Chg (fun k => k = c.block ∨ (Value.slice (some ⟨gb, 0, none⟩) n cp).ownBlock = some k) w x) (b : x.cell? c = some (.bool H)) (d : x.frozen? c = false) => hHFO ▸ hFO ▸ HF.out x H O a b d)
      have NP := Lib.hid hPF
      clear hFO hHFO hPF
      refine wp_region_M (fun w' => w'.cell? ⟨pb, 2, none⟩ = some (.slice (some ⟨gb, 0, none⟩) n cp) ∧ Blk w' wr.heap.size 49 11 O) 15 (by kernel_rfl) ?_ (fun hHeld => ?_)
      · exact ⟨HP.out.c2, HS.out.e0⟩
      refine wpAnyM_take 0 (v := ?_) rfl (by kernel_rfl) (fun _ _ _ h => h) (Or.inl ⟨by rfl, ?_⟩) (by assumption) ?_
      rotate_left
      · (intro wx hSw; (try dsimp only at hSw); go_simp; (try with_reducible rfl))
      (try simp only [Act.put, nA, nB, nC])
      refine wpAnyM_take 1 (v := ?_) rfl (by kernel_rfl) (fun _ _ _ h => h) (Or.inl ⟨by rfl, ?_⟩) (by assumption) ?_
      rotate_left
      · (intro wx hSw; (try dsimp only at hSw); go_simp; (try with_reducible rfl))
      (try simp only [Act.put, nA, nB, nC])
      refine wpAnyM_take 2 (v := ?_) rfl (by kernel_rfl) (fun _ _ _ h => h) (Or.inl ⟨by rfl, ?_⟩) (by assumption) ?_
      rotate_left
      · (intro wx hSw; (try dsimp only at hSw); go_simp; (try with_reducible rfl))
      (try simp only [Act.put, nA, nB, nC])
      refine wpAnyM_take 3 (v := ?_) rfl (by kernel_rfl) (fun _ _ _ h => h) (Or.inl ⟨by rfl, ?_⟩) (by assumption) ?_
      rotate_left
      · (intro wx hSw; have c3 := hSw.1; go_simp; with_reducible rfl)
      (try simp only [Act.put, nA, nB, nC])
      refine wpAnyM_take 4 (v := ?_) rfl (by kernel_rfl) (fun _ _ _ h => h) (Or.inl ⟨by rfl, ?_⟩) (by assumption) ?_
      rotate_left
      · (intro wx hSw; (try dsimp only at hSw); go_simp; (try with_reducible rfl))
      (try simp only [Act.put, nA, nB, nC])
      refine wpAnyM_take 5 (v := ?_) rfl (by kernel_rfl) (fun _ _ _ h => h) (Or.inl ⟨by rfl, ?_⟩) (by assumption) ?_
      rotate_left
      · (intro wx hSw; (try dsimp only at hSw); go_simp; (try with_reducible rfl))
      (try simp only [Act.put, nA, nB, nC])
      refine wpAnyM_take 6 (v := ?_) rfl (by kernel_rfl) (fun _ _ _ h => h) (Or.inl ⟨by rfl, ?_⟩) (by assumption) ?_
      rotate_left
      · (intro wx hSw; refine Eq.trans (run_build_st0o (by rfl)) ?_; with_reducible rfl)
      (try simp only [Act.put, nA, nB, nC])
      refine wpAnyM_take 7 (v := ?_) rfl (by kernel_rfl) (fun _ _ _ h => h) (Or.inl ⟨by rfl, ?_⟩) (by assumption) ?_
      rotate_left
      · (intro wx hSw; (try dsimp only at hSw); go_simp; (try with_reducible rfl))
      (try simp only [Act.put, nA, nB, nC])
      refine wpAnyM_take 8 (v := ?_) rfl (by kernel_rfl) (fun _ _ _ h => h) (Or.inl ⟨by rfl, ?_⟩) (by assumption) ?_
      rotate_left
      · (intro wx hSw; refine Eq.trans (run_load_row 49 (.tmp 7) (by rfl) (wr.heap.size) (by rfl) _ _ _ _ (hSw.2) Try.underlying49 rfl (iou.trans (by rw [arrv_size]))) ?_; with_reducible rfl)
      (try simp only [Act.put, nA, nB, nC])
      refine wpAnyM_take 11 (v := ?_) rfl (by kernel_rfl) (fun _ _ _ h => h) (Or.inl ⟨by rfl, ?_⟩) (by assumption) ?_
      rotate_left
      · (intro wx hSw; (try dsimp only at hSw); go_simp; (try with_reducible rfl))
      (try simp only [Act.put, nA, nB, nC])
      refine wpAnyM_take 12 (v := ?_) rfl (by kernel_rfl) (fun _ _ _ h => h) (Or.inl ⟨by rfl, ?_⟩) (by assumption) ?_
      rotate_left
      · (intro wx hSw; have i0 := hSw.2.cell (i := 0) (by decide); go_simp; with_reducible rfl)
      (try simp only [Act.put, nA, nB, nC])
      refine wpAnyM_oneS 9 rfl (by kernel_rfl) (fun K hK => ?_)
      go_simp
      (simp only [HCF.out]); go_simp; (refine (FC.out _ (R.out.chg.then (Chg.upd (X := fun k => k = c.block) HS.out.upd rfl) (fun _ _ e => .inl e)) HS.out.cell HS.out.free).mono ?_); rintro e w4 ⟨rfl, hu⟩; have HS2 := Lib.hid (HS.out.upd' hu); have HP2 := Lib.hid (HP.out.upd hu (fun e => HC.out e.symm) HV.out); clear HS HP hu; have HS := HS2; have HP := HP2; clear HS2 HP2
      (try dsimp only)
      (try simp only [Act.put, nA, nB, nC])
      clear hHeld
      refine hK.out _ _ ?_ (fun hHeld => ?_)
      · exact ⟨HP.out.c2, HS.out.e0⟩
      clear hK K
      (try simp only [Act.put, nA, nB, nC])
      refine wpAnyM_oneS 10 rfl (by kernel_rfl) (fun K hK => ?_)
      go_simp
      (refine (put_any (fun _ => 0) FO _).mono ?_); (rw [NP.out]); rintro e w5 ⟨rfl, hb⟩; have HS2 := Lib.hid (HS.out.down hb); have HP2 := Lib.hid (HP.out.below hb); clear HS HP hb; have HS := HS2; have HP := HP2; clear HS2 HP2
      (try dsimp only)
      (try simp only [Act.put, nA, nB, nC])
      clear hHeld
      refine hK.out _ _ ?_ (fun hHeld => ?_)
      · exact ⟨HP.out.c2, HS.out.e0⟩
      clear hK K
      (try simp only [Act.put, nA, nB, nC])
      refine wpAnyM_oneS 13 rfl (by kernel_rfl) (fun K hK => ?_)
      go_simp
      (refine (outof_any c HFO PF (O 0) _ HS.out.cell HS.out.free).mono ?_); rintro e w6 ⟨rfl, hu⟩; have HS2 := Lib.hid (HS.out.upd' hu); have HP2 := Lib.hid (HP.out.upd hu (fun e => HC.out e.symm) HV.out); clear HS HP hu; have HS := HS2; have HP := HP2; clear HS2 HP2; obtain ⟨w7, hr7, HE7⟩ := ea_step HC.out (HV.out gb rfl) R.out HS.out hlt (ofF PF (O 0)); have HE := Lib.hid HE7; clear HE7
      (try dsimp only)
      (try simp only [Act.put, nA, nB, nC])
      clear hHeld
      refine hK.out _ _ ?_ (fun hHeld => ?_)
      · exact ⟨HP.out.c2, HS.out.e0⟩
      clear hK K
      (try simp only [Act.put, nA, nB, nC])
      refine wpAnyM_take 14 (v := ?_) rfl (by kernel_rfl) (fun _ _ _ h => h) (Or.inl ⟨by rfl, ?_⟩) (by assumption) ?_
      rotate_left
      · (intro wx hSw; (try dsimp only at hSw); go_simp; (try with_reducible rfl))
      (try simp only [Act.put, nA, nB, nC])
      refine wpAnyM_doneL 15 rfl (by kernel_rfl) (by rfl) (by kernel_rfl) (run_store_out (.tmp 32) (.tmp 31) rfl gb (k * 11) rfl rfl hr7) ?_
      (try simp only [Act.put, nA, nB, nC])
      refine wpAnyM_done (by kernel_rfl) ?_ _
      (rw [← HK.out.1, ← HK.out.2] at HE; go_wp2_with fail; go_roundw; (case rel => exact ⟨k + 1, by omega, by go_num, HE⟩); (case measure => simp [intOf]; omega))
    · obtain rfl : k = n := by omega
      have d1 : decide (k < k) = false := by simp
      have d2 : decide ((k : Int) < (k : Int)) = false := by simp
      go_wp2_with fail
      go_end0
      exact ⟨rfl, R.out⟩
end Go.Proofs.Ytpoiobgpggiebaa
