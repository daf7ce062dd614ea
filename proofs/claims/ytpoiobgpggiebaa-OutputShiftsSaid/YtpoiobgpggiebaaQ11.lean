/- Contracts of the program's functions and plain laws, part 11: they hold for all arguments. -/
import Derived.Test.YtpoiobgpggiebaaQ09
import Derived.Test.YtpoiobgpggiebaaQ06
import Derived.Test.YtpoiobgpggiebaaQ10
/- Contract of quat.Mul. -/
namespace Go.Proofs.Ytpoiobgpggiebaa
open Go.RowKit
set_option maxRecDepth 100000
theorem lst4 (w : World) (T : TypeId) (a b c d : Int) : ∀ i, i < 4 → (w.alloc (.cells #[.int .i64 a, .int .i64 b, .int .i64 c, .int .i64 d] T)).cell? ⟨w.heap.size, 0 + i, none⟩ = some (.int .i64 (q4 a b c d i)) := by
  intro i hi
  obtain rfl | rfl | rfl | rfl : i = 0 ∨ i = 1 ∨ i = 2 ∨ i = 3 := by omega
  all_goals simp [go_sem, q4]
theorem q4_eq (F : Nat → Int) : arrv 4 (q4 (F 0) (F 1) (F 2) (F 3)) = arrv 4 F := arrv_congr fun i hi => by
  obtain rfl | rfl | rfl | rfl : i = 0 ∨ i = 1 ∨ i = 2 ∨ i = 3 := by omega
  all_goals rfl
open Go in
theorem run_build_q4 {o : Oper} {ev : Operand → Value} {w : World} (x y z u : Operand) (ho : o.op = .build 42 #[(0, x), (1, y), (2, z), (3, u)]) {a b c d : Int} (hx : ev x = .int .i64 a) (hy : ev y = .int .i64 b) (hw : ev z = .int .i64 c) (hu : ev u = .int .i64 d) :
    (execOp ev o).run Try.prog w = .ok (.value (.agg (arrv 4 (q4 a b c d)))) w := by
  unfold execOp
  simp only [ho, List.map_toArray, List.map_cons, List.map_nil, hx, hy, hw, hu]
  kernel_rfl
/-- What a closure of quaternions holds: the flag's pointer in a box, the quaternion. -/
structure QcR (c : Addr) (h : Bool) (cb ab : Nat) (q : Nat → Int) (w wr : World) : Prop where
  upd : Upd c h w wr
  ptr : wr.cell? ⟨cb, 0, none⟩ = some (.pointer (some c))
  a : Blk wr ab 42 4 q
  cell : wr.cell? c = some (.bool h)
  free : wr.frozen? c = false
theorem QcR.upd' {c : Addr} {h h' : Bool} {cb ab : Nat} {q : Nat → Int} {w wr w' : World} (s : QcR c h cb ab q w wr) (u : Upd c h' wr w') : QcR c h' cb ab q w w' :=
  ⟨s.upd.trans u, by rw [u.cell (World.block_lt_of_cell? _ _ s.ptr) (fun e => by have := s.cell; rw [e, s.ptr] at this; cases this)]; exact s.ptr, s.a.upd u (fun e => s.a.flag s.cell (by rw [e])), u.cellc s.cell, (u.frozen (World.block_lt_of_cell? _ _ s.cell)).trans s.free⟩
theorem QcR.down {c : Addr} {h : Bool} {cb ab : Nat} {q : Nat → Int} {w wr w' : World} (s : QcR c h cb ab q w wr) (u : Below wr.heap.size wr w') : QcR c h cb ab q w w' :=
  ⟨s.upd.then u, (u.cell (World.block_lt_of_cell? _ _ s.ptr)).trans s.ptr, s.a.below u, (u.cell (World.block_lt_of_cell? _ _ s.cell)).trans s.cell, (u.frozen (World.block_lt_of_cell? _ _ s.cell)).trans s.free⟩
theorem QcR.drew {c : Addr} {h : Bool} {cb ab : Nat} {q : Nat → Int} {w wr : World} (s : QcR c h cb ab q w wr) : QcR c h cb ab q w wr.drew := s.down (Below.drew (Below.refl _ _))
set_option maxHeartbeats 4000000 in
theorem qdot_any (c : Addr) (h : Bool) (cb ab : Nat) (q : Nat → Int) (x0 x1 x2 x3 : Int) (w : World) (S0 : QcR c h cb ab q w w) :
    Calls Try.prog 50 #[.int .i64 x0, .int .i64 x1, .int .i64 x2, .int .i64 x3, .pointer (some ⟨cb, 0, none⟩), .pointer (some ⟨ab, 0, none⟩)] w fun e w' =>
      e = .returned (.int .i64 (dotV 30 q (q4 x0 x1 x2 x3) 4)) ∧ Upd c (h || dotH 30 q (q4 x0 x1 x2 x3) 4) w w' := by
  have HS := Lib.hid S0.drew
  clear S0
  go_enter Try.func50, Try.ntmps50
  go_upto_region 1 with fail
  refine wp_region_M (fun w' => w'.cell? ⟨cb, 0, none⟩ = some (.pointer (some c))) 8 (by kernel_rfl) ?_ (fun hHeld => ?_)
  · exact HS.out.ptr
  refine wpAnyM_take 0 (v := ?_) rfl (by kernel_rfl) (fun _ _ _ h => h) (Or.inl ⟨by rfl, ?_⟩) (by assumption) ?_
  rotate_left
  · (intro wx hSw; (try dsimp only at hSw); go_simp; (try with_reducible rfl))
  (try simp only [Act.put, nA, nB, nC])
  refine wpAnyM_take 1 (v := ?_) rfl (by kernel_rfl) (fun _ _ _ h => h) (Or.inl ⟨by rfl, ?_⟩) (by assumption) ?_
  rotate_left
  · (intro wx hSw; (try dsimp only at hSw); go_simp; (try with_reducible rfl))
  (try simp only [Act.put, nA, nB, nC])
  refine wpAnyM_take 2 (v := ?_) rfl (by kernel_rfl) (fun _ _ _ h => h) (Or.inl ⟨by rfl, ?_⟩) (by assumption) ?_
  rotate_left
  · (intro wx hSw; (try dsimp only at hSw); go_simp; (try with_reducible rfl))
  (try simp only [Act.put, nA, nB, nC])
  refine wpAnyM_take 3 (v := ?_) rfl (by kernel_rfl) (fun _ _ _ h => h) (Or.inl ⟨by rfl, ?_⟩) (by assumption) ?_
  rotate_left
  · (intro wx hSw; (try dsimp only at hSw); go_simp; (try with_reducible rfl))
  (try simp only [Act.put, nA, nB, nC])
  refine wpAnyM_take 4 (v := ?_) rfl (by kernel_rfl) (fun _ _ _ h => h) (Or.inl ⟨by rfl, ?_⟩) (by assumption) ?_
  rotate_left
  · (intro wx hSw; (try dsimp only at hSw); go_simp; (try with_reducible rfl))
  (try simp only [Act.put, nA, nB, nC])
  refine wpAnyM_take 5 (v := ?_) rfl (by kernel_rfl) (fun _ _ _ h => h) (Or.inl ⟨by rfl, ?_⟩) (by assumption) ?_
  rotate_left
  · (intro wx hSw; (try dsimp only at hSw); go_simp; (try with_reducible rfl))
  (try simp only [Act.put, nA, nB, nC])
  refine wpAnyM_oneS 6 rfl (by kernel_rfl) (fun K hK => ?_)
  go_simp; have HT := Lib.hid (HS.out.down (Below.alloc (Below.refl _ _) (Nat.le_refl _) (.cells #[.int .i64 x0, .int .i64 x1, .int .i64 x2, .int .i64 x3] 2))); have L4 := Lib.hid (lst4 w.drew 2 x0 x1 x2 x3); clear HS; have HS := HT; clear HT
  clear hHeld
  refine hK.out _ _ ?_ (fun hHeld => ?_)
  · exact HS.out.ptr
  clear hK K
  (try simp only [Act.put, nA, nB, nC])
  refine wpAnyM_oneS 7 rfl (by kernel_rfl) (fun K hK => ?_)
  go_simp
  (refine (dot_any c h 30 q (q4 x0 x1 x2 x3) ab 0 4 w.drew.heap.size 0 4 4 _ HS.out.cell HS.out.free (by decide) (by decide) (by decide) (fun i hi => by rw [Nat.zero_add]; exact HS.out.a.cell hi) L4.out).mono ?_); rintro e w2 ⟨rfl, hu⟩; have HT := Lib.hid (HS.out.upd' hu); clear HS L4 hu; have HS := HT; clear HT
  (try dsimp only)
  (try simp only [Act.put, nA, nB, nC])
  clear hHeld
  refine hK.out _ _ ?_ (fun hHeld => ?_)
  · exact HS.out.ptr
  clear hK K
  (try simp only [Act.put, nA, nB, nC])
  refine wpAnyM_one 8 rfl (by kernel_rfl) (fun K hK => ?_)
  go_simp
  refine hK.out _ _ (.inl (by kernel_rfl)) (fun _ => ?_)
  clear hK K
  (try simp only [Act.put, nA, nB, nC])
  refine wpAnyM_done (by kernel_rfl) ?_ _
  go_wp2_with fail
  go_ret
  exact ⟨rfl, HS.out.upd⟩
end Go.Proofs.Ytpoiobgpggiebaa
/- Contract of quat.Mul (2). -/
namespace Go.Proofs.Ytpoiobgpggiebaa
open Go.RowKit
set_option maxRecDepth 100000
/-- The blocks of quat.Mul. -/
structure QmR (c : Addr) (h : Bool) (A B : Nat → Int) (w wr : World) : Prop where
  upd : Upd c h w wr
  ptr : wr.cell? ⟨w.heap.size, 0, none⟩ = some (.pointer (some c))
  a : Blk wr (w.heap.size + 1) 42 4 A
  b : Blk wr (w.heap.size + 1 + 1) 42 4 B
  r : Blk wr (w.heap.size + 1 + 1 + 1) 42 4 (fun _ => 0)
  cell : wr.cell? c = some (.bool h)
  free : wr.frozen? c = false
  cb : c.block < w.heap.size
theorem QmR.upd' {c : Addr} {h h' : Bool} {A B : Nat → Int} {w wr w' : World} (s : QmR c h A B w wr) (u : Upd c h' wr w') : QmR c h' A B w w' := by
  have hcb := s.cb
  exact ⟨s.upd.trans u, by rw [u.cell (World.block_lt_of_cell? _ _ s.ptr) (fun e => by rw [e] at hcb; exact absurd hcb (by simp))]; exact s.ptr, s.a.upd u (by omega), s.b.upd u (by omega), s.r.upd u (by omega), u.cellc s.cell, (u.frozen (World.block_lt_of_cell? _ _ s.cell)).trans s.free, s.cb⟩
theorem QmR.down {c : Addr} {h : Bool} {A B : Nat → Int} {w wr w' : World} (s : QmR c h A B w wr) (u : Below wr.heap.size wr w') : QmR c h A B w w' :=
  ⟨s.upd.then u, (u.cell (World.block_lt_of_cell? _ _ s.ptr)).trans s.ptr, s.a.below u, s.b.below u, s.r.below u, (u.cell (World.block_lt_of_cell? _ _ s.cell)).trans s.cell, (u.frozen (World.block_lt_of_cell? _ _ s.cell)).trans s.free, s.cb⟩
theorem QmR.drew {c : Addr} {h : Bool} {A B : Nat → Int} {w wr : World} (s : QmR c h A B w wr) : QmR c h A B w wr.drew := s.down (Below.drew (Below.refl _ _))
theorem cell_row_other {w : World} {g : Nat} (cs : Array Value) {p : Addr} (h : p.block ≠ g) : (w.setRow g cs).cell? p = w.cell? p ∧ (w.setRow g cs).frozen? p = w.frozen? p := by
  have e := Go.setRow_other w g p.block cs h
  constructor
  · simp only [World.cell?, e]
  · simp only [World.frozen?, e]
theorem QmR.rowA {c : Addr} {h : Bool} {A B : Nat → Int} {w wr : World} (s : QmR c h A B w wr) (F : Nat → Int) : QmR c h F B w (wr.setRow (w.heap.size + 1) (arrv 4 F)) := by
  have hcb := s.cb
  exact ⟨s.upd.then' (below_row (Below.refl _ _) (by omega) _), by rw [(cell_row_other _ (by simp)).1]; exact s.ptr, s.a.setRow F, s.b.setRow_other _ (by omega), s.r.setRow_other _ (by omega), by rw [(cell_row_other _ (by omega)).1]; exact s.cell, by rw [(cell_row_other _ (by omega)).2]; exact s.free, s.cb⟩
theorem QmR.rowB {c : Addr} {h : Bool} {A B : Nat → Int} {w wr : World} (s : QmR c h A B w wr) (F : Nat → Int) : QmR c h A F w (wr.setRow (w.heap.size + 1 + 1) (arrv 4 F)) := by
  have hcb := s.cb
  exact ⟨s.upd.then' (below_row (Below.refl _ _) (by omega) _), by rw [(cell_row_other _ (by simp; omega)).1]; exact s.ptr, s.a.setRow_other _ (by omega), s.b.setRow F, s.r.setRow_other _ (by omega), by rw [(cell_row_other _ (by omega)).1]; exact s.cell, by rw [(cell_row_other _ (by omega)).2]; exact s.free, s.cb⟩
theorem QmR.qc {c : Addr} {h : Bool} {A B : Nat → Int} {w wr : World} (s : QmR c h A B w wr) : QcR c h w.heap.size (w.heap.size + 1) A wr wr := ⟨Upd.refl s.cell, s.ptr, s.a, s.cell, s.free⟩
theorem qm_start (c : Addr) (h : Bool) (A B : Nat → Int) (w : World) (hc : w.cell? c = some (.bool h)) (hf : w.frozen? c = false) :
    QmR c h A B w ((((w.alloc (.cells #[.pointer (some c)] 27)).alloc (.cells (arrv 4 A) 42)).alloc (.cells (arrv 4 B) 42)).alloc (.cells #[.int .i64 0, .int .i64 0, .int .i64 0, .int .i64 0] 42)) := by
  have hcb := World.block_lt_of_cell? w c hc
  have bl : Below w.heap.size w ((((w.alloc (.cells #[.pointer (some c)] 27)).alloc (.cells (arrv 4 A) 42)).alloc (.cells (arrv 4 B) 42)).alloc (.cells #[.int .i64 0, .int .i64 0, .int .i64 0, .int .i64 0] 42)) := by (repeat (first | with_reducible exact Below.refl _ _ | with_reducible apply Below.drew | (with_reducible refine below_drewN ?_ _) | (with_reducible refine Below.alloc ?_ (by (try simp) <;> omega) _) | (with_reducible refine Below.setCell ?_ (by (try simp) <;> omega) _)))
  refine ⟨Upd.then (Upd.refl hc) bl, ?_, ?_, ?_, ?_, (bl.cell hcb).trans hc, (bl.frozen hcb).trans hf, hcb⟩
  · simp [go_sem]
  · exact ((Blk.new1 w _ _ 4 A).alloc _).alloc _
  · exact (blk_new2 w _ _ _ 4 B).alloc _
  · rw [zq4]; exact blk_new3 w _ _ _ _ 4 _
set_option maxHeartbeats 8000000 in
theorem qmul_any (c : Addr) (h : Bool) (A B : Nat → Int) (w : World) (hc : w.cell? c = some (.bool h)) (hf : w.frozen? c = false) :
    Calls Try.prog 29 #[.pointer (some c), .agg (arrv 4 A), .agg (arrv 4 B)] w fun e w' => e = .returned (.agg (arrv 4 (qmV A B))) ∧ Upd c (h || qmH A B) w w' := by
  have hmf : ∀ (fn : Fn) (first cap : Array Value) (w : World), (Instr.makeFunc fn first cap).run Try.prog w = .ok (.func fn first cap) w := fun _ _ _ _ => rfl
  have S0 := Lib.hid (qm_start c h A B w hc hf)
  clear hc hf
  go_enter Try.func29, Try.ntmps29
  go_upto_region 1 with fail
  generalize (((w.alloc (.cells #[.pointer (some c)] 27)).alloc (.cells (arrv 4 A) 42)).alloc (.cells (arrv 4 B) 42)).alloc (.cells #[.int .i64 0, .int .i64 0, .int .i64 0, .int .i64 0] 42) = W0 at *
  have HS := Lib.hid S0.out.drew
  clear S0
  refine wp_region_M (fun w' => w'.cell? ⟨w.heap.size, 0, none⟩ = some (.pointer (some c)) ∧ Blk w' (w.heap.size + 1) 42 4 A ∧ Blk w' (w.heap.size + 1 + 1) 42 4 B) 5 (by kernel_rfl) ?_ (fun hHeld => ?_)
  · exact ⟨HS.out.ptr, HS.out.a, HS.out.b⟩
  refine wpAnyM_take2 2 0 (v := ?_) rfl (by kernel_rfl) (fun _ _ _ h => h) (Or.inl ⟨by rfl, ?_⟩) (by assumption) ?_
  rotate_left
  · (intro wx hSw; have h0 := hSw.1; go_simp; (try with_reducible rfl))
  (try simp only [Act.put, nA, nB, nC])
  refine wpAnyM_take2 2 1 (v := ?_) rfl (by kernel_rfl) (fun _ _ _ h => h) (Or.inl ⟨by rfl, ?_⟩) (by assumption) ?_
  rotate_left
  · (intro wx hSw; refine Eq.trans (run_load_row 42 (.tmp 4) (by rfl) (w.heap.size + 1) (by rfl) _ _ _ _ (hSw.2.1) Try.underlying42 rfl (iqt.trans (by rw [arrv_size]))) ?_; with_reducible rfl)
  (try simp only [Act.put, nA, nB, nC])
  refine wpAnyM_take 3 (v := ?_) rfl (by kernel_rfl) (fun _ _ _ h => h) (Or.inl ⟨by rfl, ?_⟩) (by assumption) ?_
  rotate_left
  · (intro wx hSw; have h0 := hSw.1; go_simp; (try with_reducible rfl))
  (try simp only [Act.put, nA, nB, nC])
  refine wpAnyM_take 4 (v := ?_) rfl (by kernel_rfl) (fun _ _ _ h => h) (Or.inl ⟨by rfl, ?_⟩) (by assumption) ?_
  rotate_left
  · (intro wx hSw; refine Eq.trans (run_load_row 42 (.tmp 5) (by rfl) (w.heap.size + 1 + 1) (by rfl) _ _ _ _ (hSw.2.2) Try.underlying42 rfl (iqt.trans (by rw [arrv_size]))) ?_; with_reducible rfl)
  (try simp only [Act.put, nA, nB, nC])
  refine wpAnyM_oneS 2 rfl (by kernel_rfl) (fun K hK => ?_)
  go_simp
  (refine (qsat_any c _ A _ HS.out.cell HS.out.free).mono ?_); rintro e w1 ⟨rfl, hu⟩; have HT := Lib.hid (HS.out.upd' hu); clear HS hu; have HS := HT; clear HT
  (try dsimp only)
  (try simp only [Act.put, nA, nB, nC])
  clear hHeld
  refine hK.out _ _ ?_ (fun hHeld => ?_)
  · exact ⟨HS.out.ptr, HS.out.a, HS.out.b⟩
  clear hK K
  (try simp only [Act.put, nA, nB, nC])
  refine wpAnyM_one 5 rfl (by kernel_rfl) (fun K hK => ?_)
  go_simp
  (refine (qsat_any c _ B _ HS.out.cell HS.out.free).mono ?_); rintro e w2 ⟨rfl, hu⟩; have HT := Lib.hid (HS.out.upd' hu); clear HS hu; have HS := HT; clear HT
  (try dsimp only)
  (try simp only [Act.put, nA, nB, nC])
  refine hK.out _ _ (.inl (by kernel_rfl)) (fun _ => ?_)
  clear hK K
  (try simp only [Act.put, nA, nB, nC])
  refine wpAnyM_switch (fun _ => True) 7 (by kernel_rfl) ?_ (fun hHeld => ?_)
  · trivial
  refine wpAnyM_oneS 6 rfl (by kernel_rfl) (fun K hK => ?_)
  go_simp; rw [if_pos (arrv_size _ _), run_storeCells_row _ HS.out.a]; go_simp; have HT := Lib.hid (HS.out.rowA (satA A)); clear HS; have HS := HT; clear HT
  clear hHeld
  refine hK.out _ _ ?_ (fun hHeld => ?_)
  · trivial
  clear hK K
  (try simp only [Act.put, nA, nB, nC])
  refine wpAnyM_one 7 rfl (by kernel_rfl) (fun K hK => ?_)
  go_simp; rw [if_pos (arrv_size _ _), run_storeCells_row _ HS.out.b]; go_simp; have HT := Lib.hid (HS.out.rowB (satA B)); clear HS; have HS := HT; clear HT
  refine hK.out _ _ (.inl (by kernel_rfl)) (fun _ => ?_)
  clear hK K
  (try simp only [Act.put, nA, nB, nC])
  refine wpAnyM_switch (fun _ => True) 7 (by kernel_rfl) ?_ (fun hHeld => ?_)
  · trivial
  refine wpAnyM_done (by kernel_rfl) ?_ _
  generalize (w2.setRow (w.heap.size + 1) (arrv 4 (satA A))).setRow (w.heap.size + 1 + 1) (arrv 4 (satA B)) = W3 at *
  have bb : ∀ i, -1152921504606846976 ≤ satA B i ∧ satA B i ≤ 1152921504606846976 := fun i => satV_bd _
  obtain ⟨F, hF⟩ : ∃ x, satA A = x := ⟨_, rfl⟩
  obtain ⟨G, hG⟩ : ∃ x, satA B = x := ⟨_, rfl⟩
  obtain ⟨H1, hH1⟩ : ∃ x, (h || orB (fun i => satH (A i)) 4 || orB (fun i => satH (B i)) 4) = x := ⟨_, rfl⟩
  rw [hF, hG, hH1] at HS
  rw [hG] at bb
  have HE := Lib.hid (show (fun r => dotV 30 F (qmR G r) 4) = qmV A B ∧ (H1 || orB (fun r => dotH 30 F (qmR G r) 4) 4) = (h || qmH A B) by
    rw [← hF, ← hG, ← hH1]; exact ⟨rfl, by unfold qmH; simp [Bool.or_assoc]⟩)
  clear hF hG hH1
  have e1 : IntKind.i64.wrap (-(G 1)) = -(G 1) := IntWalk.i64_in _ (by have := bb 1; omega)
  have e2 : IntKind.i64.wrap (-(G 2)) = -(G 2) := IntWalk.i64_in _ (by have := bb 2; omega)
  have e3 : IntKind.i64.wrap (-(G 3)) = -(G 3) := IntWalk.i64_in _ (by have := bb 3; omega)
  obtain ⟨g0, h0⟩ : ∃ x, G 0 = x := ⟨_, rfl⟩
  obtain ⟨g1, h1⟩ : ∃ x, G 1 = x := ⟨_, rfl⟩
  obtain ⟨g2, h2⟩ : ∃ x, G 2 = x := ⟨_, rfl⟩
  obtain ⟨g3, h3⟩ : ∃ x, G 3 = x := ⟨_, rfl⟩
  rw [h1] at e1
  rw [h2] at e2
  rw [h3] at e3
  have HG := Lib.hid (And.intro (And.intro h0 h1) (And.intro h2 h3))
  clear h0 h1 h2 h3 bb
  go_upto_region 3 with fail
  have HT := Lib.hid HS.out.drew
  clear HS
  have HS := HT
  clear HT
  refine wp_region_M (fun w' => w'.cell? ⟨w.heap.size + 1 + 1, 0, none⟩ = some (.int .i64 g0) ∧ w'.cell? ⟨w.heap.size + 1 + 1, 1, none⟩ = some (.int .i64 g1) ∧ w'.cell? ⟨w.heap.size + 1 + 1, 2, none⟩ = some (.int .i64 g2) ∧ w'.cell? ⟨w.heap.size + 1 + 1, 3, none⟩ = some (.int .i64 g3)) 47 (by kernel_rfl) ?_ (fun hHeld => ?_)
  · exact ⟨by rw [← HG.out.1.1]; exact HS.out.b.cell (by decide), by rw [← HG.out.1.2]; exact HS.out.b.cell (by decide), by rw [← HG.out.2.1]; exact HS.out.b.cell (by decide), by rw [← HG.out.2.2]; exact HS.out.b.cell (by decide)⟩
  refine wpAnyM_take 0 (v := ?_) rfl (by kernel_rfl) (fun _ _ _ h => h) (Or.inl ⟨by rfl, ?_⟩) (by assumption) ?_
  rotate_left
  · (intro wx hSw; (try dsimp only at hSw); go_simp; (try with_reducible rfl))
  (try simp only [Act.put, nA, nB, nC])
  refine wpAnyM_take 1 (v := ?_) rfl (by kernel_rfl) (fun _ _ _ h => h) (Or.inl ⟨by rfl, ?_⟩) (by assumption) ?_
  rotate_left
  · (intro wx hSw; (try dsimp only at hSw); go_simp; (try with_reducible rfl))
  (try simp only [Act.put, nA, nB, nC])
  refine wpAnyM_take 2 (v := ?_) rfl (by kernel_rfl) (fun _ _ _ h => h) (Or.inl ⟨by rfl, ?_⟩) (by assumption) ?_
  rotate_left
  · (intro wx hSw; (try dsimp only at hSw); go_simp; (try with_reducible rfl))
  (try simp only [Act.put, nA, nB, nC])
  refine wpAnyM_take 3 (v := ?_) rfl (by kernel_rfl) (fun _ _ _ h => h) (Or.inl ⟨by rfl, ?_⟩) (by assumption) ?_
  rotate_left
  · (intro wx hSw; (try dsimp only at hSw); go_simp; (try with_reducible rfl))
  (try simp only [Act.put, nA, nB, nC])
  refine wpAnyM_take 4 (v := ?_) rfl (by kernel_rfl) (fun _ _ _ h => h) (Or.inl ⟨by rfl, ?_⟩) (by assumption) ?_
  rotate_left
  · (intro wx hSw; (try dsimp only at hSw); go_simp; (try with_reducible rfl))
  (try simp only [Act.put, nA, nB, nC])
  refine wpAnyM_take 5 (v := ?_) rfl (by kernel_rfl) (fun _ _ _ h => h) (Or.inl ⟨by rfl, ?_⟩) (by assumption) ?_
  rotate_left
  · (intro wx hSw; (try dsimp only at hSw); go_simp; (try with_reducible rfl))
  (try simp only [Act.put, nA, nB, nC])
  refine wpAnyM_take 6 (v := ?_) rfl (by kernel_rfl) (fun _ _ _ h => h) (Or.inl ⟨by rfl, ?_⟩) (by assumption) ?_
  rotate_left
  · (intro wx hSw; (try dsimp only at hSw); go_simp; (try with_reducible rfl))
  (try simp only [Act.put, nA, nB, nC])
  refine wpAnyM_take 7 (v := ?_) rfl (by kernel_rfl) (fun _ _ _ h => h) (Or.inl ⟨by rfl, ?_⟩) (by assumption) ?_
  rotate_left
  · (intro wx hSw; (try dsimp only at hSw); go_simp; (try with_reducible rfl))
  (try simp only [Act.put, nA, nB, nC])
  refine wpAnyM_take 8 (v := ?_) rfl (by kernel_rfl) (fun _ _ _ h => h) (Or.inl ⟨by rfl, ?_⟩) (by assumption) ?_
  rotate_left
  · (intro wx hSw; (try dsimp only at hSw); go_simp; (try with_reducible rfl))
  (try simp only [Act.put, nA, nB, nC])
  refine wpAnyM_take 9 (v := ?_) rfl (by kernel_rfl) (fun _ _ _ h => h) (Or.inl ⟨by rfl, ?_⟩) (by assumption) ?_
  rotate_left
  · (intro wx hSw; (try dsimp only at hSw); go_simp; (try with_reducible rfl))
  (try simp only [Act.put, nA, nB, nC])
  refine wpAnyM_take 10 (v := ?_) rfl (by kernel_rfl) (fun _ _ _ h => h) (Or.inl ⟨by rfl, ?_⟩) (by assumption) ?_
  rotate_left
  · (intro wx hSw; (try dsimp only at hSw); go_simp; (try with_reducible rfl))
  (try simp only [Act.put, nA, nB, nC])
  refine wpAnyM_take 11 (v := ?_) rfl (by kernel_rfl) (fun _ _ _ h => h) (Or.inl ⟨by rfl, ?_⟩) (by assumption) ?_
  rotate_left
  · (intro wx hSw; (try dsimp only at hSw); go_simp; (try with_reducible rfl))
  (try simp only [Act.put, nA, nB, nC])
  refine wpAnyM_take 13 (v := ?_) rfl (by kernel_rfl) (fun _ _ _ h => h) (Or.inl ⟨by rfl, ?_⟩) (by assumption) ?_
  rotate_left
  · (intro wx hSw; (try dsimp only at hSw); go_simp; (try with_reducible rfl))
  (try simp only [Act.put, nA, nB, nC])
  refine wpAnyM_take 14 (v := ?_) rfl (by kernel_rfl) (fun _ _ _ h => h) (Or.inl ⟨by rfl, ?_⟩) (by assumption) ?_
  rotate_left
  · (intro wx hSw; (try dsimp only at hSw); go_simp; (try with_reducible rfl))
  (try simp only [Act.put, nA, nB, nC])
  refine wpAnyM_take 15 (v := ?_) rfl (by kernel_rfl) (fun _ _ _ h => h) (Or.inl ⟨by rfl, ?_⟩) (by assumption) ?_
  rotate_left
  · (intro wx hSw; (try dsimp only at hSw); go_simp; (try with_reducible rfl))
  (try simp only [Act.put, nA, nB, nC])
  refine wpAnyM_take 16 (v := ?_) rfl (by kernel_rfl) (fun _ _ _ h => h) (Or.inl ⟨by rfl, ?_⟩) (by assumption) ?_
  rotate_left
  · (intro wx hSw; (try dsimp only at hSw); go_simp; (try with_reducible rfl))
  (try simp only [Act.put, nA, nB, nC])
  refine wpAnyM_take 17 (v := ?_) rfl (by kernel_rfl) (fun _ _ _ h => h) (Or.inl ⟨by rfl, ?_⟩) (by assumption) ?_
  rotate_left
  · (intro wx hSw; (try dsimp only at hSw); go_simp; (try with_reducible rfl))
  (try simp only [Act.put, nA, nB, nC])
  refine wpAnyM_take 18 (v := ?_) rfl (by kernel_rfl) (fun _ _ _ h => h) (Or.inl ⟨by rfl, ?_⟩) (by assumption) ?_
  rotate_left
  · (intro wx hSw; (try dsimp only at hSw); go_simp; (try with_reducible rfl))
  (try simp only [Act.put, nA, nB, nC])
  refine wpAnyM_take 19 (v := ?_) rfl (by kernel_rfl) (fun _ _ _ h => h) (Or.inl ⟨by rfl, ?_⟩) (by assumption) ?_
  rotate_left
  · (intro wx hSw; (try dsimp only at hSw); go_simp; (try with_reducible rfl))
  (try simp only [Act.put, nA, nB, nC])
  refine wpAnyM_take 20 (v := ?_) rfl (by kernel_rfl) (fun _ _ _ h => h) (Or.inl ⟨by rfl, ?_⟩) (by assumption) ?_
  rotate_left
  · (intro wx hSw; (try dsimp only at hSw); go_simp; (try with_reducible rfl))
  (try simp only [Act.put, nA, nB, nC])
  refine wpAnyM_take 21 (v := ?_) rfl (by kernel_rfl) (fun _ _ _ h => h) (Or.inl ⟨by rfl, ?_⟩) (by assumption) ?_
  rotate_left
  · (intro wx hSw; (try dsimp only at hSw); go_simp; (try with_reducible rfl))
  (try simp only [Act.put, nA, nB, nC])
  refine wpAnyM_take 22 (v := ?_) rfl (by kernel_rfl) (fun _ _ _ h => h) (Or.inl ⟨by rfl, ?_⟩) (by assumption) ?_
  rotate_left
  · (intro wx hSw; (try dsimp only at hSw); go_simp; (try with_reducible rfl))
  (try simp only [Act.put, nA, nB, nC])
  refine wpAnyM_take 24 (v := ?_) rfl (by kernel_rfl) (fun _ _ _ h => h) (Or.inl ⟨by rfl, ?_⟩) (by assumption) ?_
  rotate_left
  · (intro wx hSw; (try dsimp only at hSw); go_simp; (try with_reducible rfl))
  (try simp only [Act.put, nA, nB, nC])
  refine wpAnyM_take 25 (v := ?_) rfl (by kernel_rfl) (fun _ _ _ h => h) (Or.inl ⟨by rfl, ?_⟩) (by assumption) ?_
  rotate_left
  · (intro wx hSw; (try dsimp only at hSw); go_simp; (try with_reducible rfl))
  (try simp only [Act.put, nA, nB, nC])
  refine wpAnyM_take 26 (v := ?_) rfl (by kernel_rfl) (fun _ _ _ h => h) (Or.inl ⟨by rfl, ?_⟩) (by assumption) ?_
  rotate_left
  · (intro wx hSw; (try dsimp only at hSw); go_simp; (try with_reducible rfl))
  (try simp only [Act.put, nA, nB, nC])
  refine wpAnyM_take 27 (v := ?_) rfl (by kernel_rfl) (fun _ _ _ h => h) (Or.inl ⟨by rfl, ?_⟩) (by assumption) ?_
  rotate_left
  · (intro wx hSw; (try dsimp only at hSw); go_simp; (try with_reducible rfl))
  (try simp only [Act.put, nA, nB, nC])
  refine wpAnyM_take 28 (v := ?_) rfl (by kernel_rfl) (fun _ _ _ h => h) (Or.inl ⟨by rfl, ?_⟩) (by assumption) ?_
  rotate_left
  · (intro wx hSw; (try dsimp only at hSw); go_simp; (try with_reducible rfl))
  (try simp only [Act.put, nA, nB, nC])
  refine wpAnyM_take 29 (v := ?_) rfl (by kernel_rfl) (fun _ _ _ h => h) (Or.inl ⟨by rfl, ?_⟩) (by assumption) ?_
  rotate_left
  · (intro wx hSw; (try dsimp only at hSw); go_simp; (try with_reducible rfl))
  (try simp only [Act.put, nA, nB, nC])
  refine wpAnyM_take 30 (v := ?_) rfl (by kernel_rfl) (fun _ _ _ h => h) (Or.inl ⟨by rfl, ?_⟩) (by assumption) ?_
  rotate_left
  · (intro wx hSw; (try dsimp only at hSw); go_simp; (try with_reducible rfl))
  (try simp only [Act.put, nA, nB, nC])
  refine wpAnyM_take 31 (v := ?_) rfl (by kernel_rfl) (fun _ _ _ h => h) (Or.inl ⟨by rfl, ?_⟩) (by assumption) ?_
  rotate_left
  · (intro wx hSw; (try dsimp only at hSw); go_simp; (try with_reducible rfl))
  (try simp only [Act.put, nA, nB, nC])
  refine wpAnyM_take 32 (v := ?_) rfl (by kernel_rfl) (fun _ _ _ h => h) (Or.inl ⟨by rfl, ?_⟩) (by assumption) ?_
  rotate_left
  · (intro wx hSw; (try dsimp only at hSw); go_simp; (try with_reducible rfl))
  (try simp only [Act.put, nA, nB, nC])
  refine wpAnyM_take 33 (v := ?_) rfl (by kernel_rfl) (fun _ _ _ h => h) (Or.inl ⟨by rfl, ?_⟩) (by assumption) ?_
  rotate_left
  · (intro wx hSw; (try dsimp only at hSw); go_simp; (try with_reducible rfl))
  (try simp only [Act.put, nA, nB, nC])
  refine wpAnyM_take 35 (v := ?_) rfl (by kernel_rfl) (fun _ _ _ h => h) (Or.inl ⟨by rfl, ?_⟩) (by assumption) ?_
  rotate_left
  · (intro wx hSw; (try dsimp only at hSw); go_simp; (try with_reducible rfl))
  (try simp only [Act.put, nA, nB, nC])
  refine wpAnyM_take 36 (v := ?_) rfl (by kernel_rfl) (fun _ _ _ h => h) (Or.inl ⟨by rfl, ?_⟩) (by assumption) ?_
  rotate_left
  · (intro wx hSw; (try dsimp only at hSw); go_simp; (try with_reducible rfl))
  (try simp only [Act.put, nA, nB, nC])
  refine wpAnyM_take 37 (v := ?_) rfl (by kernel_rfl) (fun _ _ _ h => h) (Or.inl ⟨by rfl, ?_⟩) (by assumption) ?_
  rotate_left
  · (intro wx hSw; (try dsimp only at hSw); go_simp; (try with_reducible rfl))
  (try simp only [Act.put, nA, nB, nC])
  refine wpAnyM_take 38 (v := ?_) rfl (by kernel_rfl) (fun _ _ _ h => h) (Or.inl ⟨by rfl, ?_⟩) (by assumption) ?_
  rotate_left
  · (intro wx hSw; (try dsimp only at hSw); go_simp; (try with_reducible rfl))
  (try simp only [Act.put, nA, nB, nC])
  refine wpAnyM_take 39 (v := ?_) rfl (by kernel_rfl) (fun _ _ _ h => h) (Or.inl ⟨by rfl, ?_⟩) (by assumption) ?_
  rotate_left
  · (intro wx hSw; (try dsimp only at hSw); go_simp; (try with_reducible rfl))
  (try simp only [Act.put, nA, nB, nC])
  refine wpAnyM_take 40 (v := ?_) rfl (by kernel_rfl) (fun _ _ _ h => h) (Or.inl ⟨by rfl, ?_⟩) (by assumption) ?_
  rotate_left
  · (intro wx hSw; (try dsimp only at hSw); go_simp; (try with_reducible rfl))
  (try simp only [Act.put, nA, nB, nC])
  refine wpAnyM_take 41 (v := ?_) rfl (by kernel_rfl) (fun _ _ _ h => h) (Or.inl ⟨by rfl, ?_⟩) (by assumption) ?_
  rotate_left
  · (intro wx hSw; (try dsimp only at hSw); go_simp; (try with_reducible rfl))
  (try simp only [Act.put, nA, nB, nC])
  refine wpAnyM_take 42 (v := ?_) rfl (by kernel_rfl) (fun _ _ _ h => h) (Or.inl ⟨by rfl, ?_⟩) (by assumption) ?_
  rotate_left
  · (intro wx hSw; (try dsimp only at hSw); go_simp; (try with_reducible rfl))
  (try simp only [Act.put, nA, nB, nC])
  refine wpAnyM_take 43 (v := ?_) rfl (by kernel_rfl) (fun _ _ _ h => h) (Or.inl ⟨by rfl, ?_⟩) (by assumption) ?_
  rotate_left
  · (intro wx hSw; (try dsimp only at hSw); go_simp; (try with_reducible rfl))
  (try simp only [Act.put, nA, nB, nC])
  refine wpAnyM_take 44 (v := ?_) rfl (by kernel_rfl) (fun _ _ _ h => h) (Or.inl ⟨by rfl, ?_⟩) (by assumption) ?_
  rotate_left
  · (intro wx hSw; (try dsimp only at hSw); go_simp; (try with_reducible rfl))
  (try simp only [Act.put, nA, nB, nC])
  refine wpAnyM_oneS 12 rfl (by kernel_rfl) (fun K hK => ?_)
  go_simp
  (refine (qdot_any c _ w.heap.size (w.heap.size + 1) F g0 (-g1) (-g2) (-g3) _ HS.out.qc).mono ?_); rintro e w4 ⟨rfl, hu⟩; have HT := Lib.hid (HS.out.upd' hu); clear HS hu; have HS := HT; clear HT
  (try dsimp only)
  (try simp only [Act.put, nA, nB, nC])
  clear hHeld
  refine hK.out _ _ ?_ (fun hHeld => ?_)
  · exact ⟨by rw [← HG.out.1.1]; exact HS.out.b.cell (by decide), by rw [← HG.out.1.2]; exact HS.out.b.cell (by decide), by rw [← HG.out.2.1]; exact HS.out.b.cell (by decide), by rw [← HG.out.2.2]; exact HS.out.b.cell (by decide)⟩
  clear hK K
  (try simp only [Act.put, nA, nB, nC])
  refine wpAnyM_oneS 23 rfl (by kernel_rfl) (fun K hK => ?_)
  go_simp
  (refine (qdot_any c _ w.heap.size (w.heap.size + 1) F g1 g0 g3 (-g2) _ HS.out.qc).mono ?_); rintro e w5 ⟨rfl, hu⟩; have HT := Lib.hid (HS.out.upd' hu); clear HS hu; have HS := HT; clear HT
  (try dsimp only)
  (try simp only [Act.put, nA, nB, nC])
  clear hHeld
  refine hK.out _ _ ?_ (fun hHeld => ?_)
  · exact ⟨by rw [← HG.out.1.1]; exact HS.out.b.cell (by decide), by rw [← HG.out.1.2]; exact HS.out.b.cell (by decide), by rw [← HG.out.2.1]; exact HS.out.b.cell (by decide), by rw [← HG.out.2.2]; exact HS.out.b.cell (by decide)⟩
  clear hK K
  (try simp only [Act.put, nA, nB, nC])
  refine wpAnyM_oneS 34 rfl (by kernel_rfl) (fun K hK => ?_)
  go_simp
  (refine (qdot_any c _ w.heap.size (w.heap.size + 1) F g2 (-g3) g0 g1 _ HS.out.qc).mono ?_); rintro e w6 ⟨rfl, hu⟩; have HT := Lib.hid (HS.out.upd' hu); clear HS hu; have HS := HT; clear HT
  (try dsimp only)
  (try simp only [Act.put, nA, nB, nC])
  clear hHeld
  refine hK.out _ _ ?_ (fun hHeld => ?_)
  · exact ⟨by rw [← HG.out.1.1]; exact HS.out.b.cell (by decide), by rw [← HG.out.1.2]; exact HS.out.b.cell (by decide), by rw [← HG.out.2.1]; exact HS.out.b.cell (by decide), by rw [← HG.out.2.2]; exact HS.out.b.cell (by decide)⟩
  clear hK K
  (try simp only [Act.put, nA, nB, nC])
  refine wpAnyM_oneS 45 rfl (by kernel_rfl) (fun K hK => ?_)
  go_simp
  (refine (qdot_any c _ w.heap.size (w.heap.size + 1) F g3 g2 (-g1) g0 _ HS.out.qc).mono ?_); rintro e w7 ⟨rfl, hu⟩; have HT := Lib.hid (HS.out.upd' hu); clear HS hu; have HS := HT; clear HT
  (try dsimp only)
  (try simp only [Act.put, nA, nB, nC])
  clear hHeld
  refine hK.out _ _ ?_ (fun hHeld => ?_)
  · exact ⟨by rw [← HG.out.1.1]; exact HS.out.b.cell (by decide), by rw [← HG.out.1.2]; exact HS.out.b.cell (by decide), by rw [← HG.out.2.1]; exact HS.out.b.cell (by decide), by rw [← HG.out.2.2]; exact HS.out.b.cell (by decide)⟩
  clear hK K
  (try simp only [Act.put, nA, nB, nC])
  refine wpAnyM_take 46 (v := ?_) rfl (by kernel_rfl) (fun _ _ _ h => h) (Or.inl ⟨by rfl, ?_⟩) (by assumption) ?_
  rotate_left
  · (intro wx hSw; refine Eq.trans (run_build_q4 (.tmp 27) (.tmp 38) (.tmp 49) (.tmp 60) (by rfl) (by rfl) (by rfl) (by rfl) (by rfl)) ?_; with_reducible rfl)
  (try simp only [Act.put, nA, nB, nC])
  refine wpAnyM_one 47 rfl (by kernel_rfl) (fun K hK => ?_)
  go_simp; rw [if_pos (arrv_size _ _), run_storeCells_row _ HS.out.r]; go_simp
  refine hK.out _ _ (.inl (by kernel_rfl)) (fun _ => ?_)
  clear hK K
  (try simp only [Act.put, nA, nB, nC])
  refine wpAnyM_done (by kernel_rfl) ?_ _
  have HV := Lib.hid (show arrv 4 (q4 (dotV 30 F (q4 g0 (-g1) (-g2) (-g3)) 4) (dotV 30 F (q4 g1 g0 g3 (-g2)) 4) (dotV 30 F (q4 g2 (-g3) g0 g1) 4) (dotV 30 F (q4 g3 g2 (-g1) g0) 4)) = arrv 4 (qmV A B) by
    rw [← HE.out.1, ← q4_eq (fun r => dotV 30 F (qmR G r) 4), ← HG.out.1.1, ← HG.out.1.2, ← HG.out.2.1, ← HG.out.2.2]; rfl)
  have r1 := HS.out.r.setRow (q4 (dotV 30 F (q4 g0 (-g1) (-g2) (-g3)) 4) (dotV 30 F (q4 g1 g0 g3 (-g2)) 4) (dotV 30 F (q4 g2 (-g3) g0 g1) 4) (dotV 30 F (q4 g3 g2 (-g1) g0) 4))
  have B1 := HS.out.upd.then' (below_row (Below.refl _ _) (show w.heap.size ≤ w.heap.size + 1 + 1 + 1 by omega) (arrv 4 (q4 (dotV 30 F (q4 g0 (-g1) (-g2) (-g3)) 4) (dotV 30 F (q4 g1 g0 g3 (-g2)) 4) (dotV 30 F (q4 g2 (-g3) g0 g1) 4) (dotV 30 F (q4 g3 g2 (-g1) g0) 4))))
  rw [HV.out] at r1 B1 ⊢
  have B2 : Upd c (h || qmH A B) w (w7.setRow (w.heap.size + 1 + 1 + 1) (arrv 4 (qmV A B))) := by
    rw [← HE.out.2]
    rw [show (H1 || orB (fun r => dotH 30 F (qmR G r) 4) 4) = (H1 || dotH 30 F (q4 g0 (-g1) (-g2) (-g3)) 4 || dotH 30 F (q4 g1 g0 g3 (-g2)) 4 || dotH 30 F (q4 g2 (-g3) g0 g1) 4 || dotH 30 F (q4 g3 g2 (-g1) g0) 4) by rw [← HG.out.1.1, ← HG.out.1.2, ← HG.out.2.1, ← HG.out.2.2]; simp [orB, qmR, Bool.or_assoc]]
    exact B1
  generalize w7.setRow (w.heap.size + 1 + 1 + 1) (arrv 4 (qmV A B)) = W8 at *
  go_wp2_with fail
  refine bodyPost_ret (results_cell_row Try.results29 _ _ (w.heap.size + 1 + 1 + 1) 42 (arrv 4 (qmV A B)) (0, 0) _ rfl (by rw [← HV.out]; exact r1) Try.underlying42 rfl (iqt.trans (by rw [arrv_size]))) rfl ⟨rfl, B2⟩
end Go.Proofs.Ytpoiobgpggiebaa
/- Contracts of package rot: Of. -/
namespace Go.Proofs.Ytpoiobgpggiebaa
open Go.RowKit
set_option maxRecDepth 100000
theorem im9 : (Try.prog.info? 92).map (·.size) = some 9 := by kernel_rfl
theorem zm9 : (#[.int .i64 0, .int .i64 0, .int .i64 0, .int .i64 0, .int .i64 0, .int .i64 0, .int .i64 0, .int .i64 0, .int .i64 0] : Array Value) = arrv 9 (fun _ => 0) := by kernel_rfl
def m9 (a b c d e f g h k : Int) : Nat → Int | 0 => a | 1 => b | 2 => c | 3 => d | 4 => e | 5 => f | 6 => g | 7 => h | _ => k
theorem m9_eq (F : Nat → Int) : arrv 9 (m9 (F 0) (F 1) (F 2) (F 3) (F 4) (F 5) (F 6) (F 7) (F 8)) = arrv 9 F := arrv_congr fun i hi => by
  obtain rfl | rfl | rfl | rfl | rfl | rfl | rfl | rfl | rfl : i = 0 ∨ i = 1 ∨ i = 2 ∨ i = 3 ∨ i = 4 ∨ i = 5 ∨ i = 6 ∨ i = 7 ∨ i = 8 := by omega
  all_goals rfl
open Go in
theorem run_build_m9 {o : Oper} {ev : Operand → Value} {w : World} (x0 x1 x2 x3 x4 x5 x6 x7 x8 : Operand) (ho : o.op = .build 92 #[(0, x0), (1, x1), (2, x2), (3, x3), (4, x4), (5, x5), (6, x6), (7, x7), (8, x8)]) {a b c d e f g h k : Int}
    (h0 : ev x0 = .int .i64 a) (h1 : ev x1 = .int .i64 b) (h2 : ev x2 = .int .i64 c) (h3 : ev x3 = .int .i64 d) (h4 : ev x4 = .int .i64 e) (h5 : ev x5 = .int .i64 f) (h6 : ev x6 = .int .i64 g) (h7 : ev x7 = .int .i64 h) (h8 : ev x8 = .int .i64 k) :
    (execOp ev o).run Try.prog w = .ok (.value (.agg (arrv 9 (m9 a b c d e f g h k)))) w := by
  unfold execOp
  simp only [ho, List.map_toArray, List.map_cons, List.map_nil, h0, h1, h2, h3, h4, h5, h6, h7, h8]
  kernel_rfl
set_option maxHeartbeats 4000000 in
theorem rsq_any (c : Addr) (h : Bool) (cb ab : Nat) (q : Nat → Int) (s0 s1 s2 s3 p0 p1 p2 p3 : Int) (w : World) (S0 : QcR c h cb ab q w w)
    (e0 : IntKind.i64.wrap (s0 * q 0) = p0) (e1 : IntKind.i64.wrap (s1 * q 1) = p1) (e2 : IntKind.i64.wrap (s2 * q 2) = p2) (e3 : IntKind.i64.wrap (s3 * q 3) = p3) :
    Calls Try.prog 82 #[.int .i64 s0, .int .i64 s1, .int .i64 s2, .int .i64 s3, .pointer (some ⟨cb, 0, none⟩), .pointer (some ⟨ab, 0, none⟩)] w fun e w' =>
      e = .returned (.int .i64 (dotV 30 q (q4 p0 p1 p2 p3) 4)) ∧ Upd c (h || dotH 30 q (q4 p0 p1 p2 p3) 4) w w' := by
  have HS := Lib.hid S0.drew
  clear S0
  obtain ⟨g0, h0⟩ : ∃ x, q 0 = x := ⟨_, rfl⟩
  obtain ⟨g1, h1⟩ : ∃ x, q 1 = x := ⟨_, rfl⟩
  obtain ⟨g2, h2⟩ : ∃ x, q 2 = x := ⟨_, rfl⟩
  obtain ⟨g3, h3⟩ : ∃ x, q 3 = x := ⟨_, rfl⟩
  rw [h0] at e0
  rw [h1] at e1
  rw [h2] at e2
  rw [h3] at e3
  have HG := Lib.hid (And.intro (And.intro h0 h1) (And.intro h2 h3))
  clear h0 h1 h2 h3
  go_enter Try.func82, Try.ntmps82
  go_upto_region 1 with fail
  refine wp_region_M (fun w' => w'.cell? ⟨cb, 0, none⟩ = some (.pointer (some c)) ∧ w'.cell? ⟨ab, 0, none⟩ = some (.int .i64 g0) ∧ w'.cell? ⟨ab, 1, none⟩ = some (.int .i64 g1) ∧ w'.cell? ⟨ab, 2, none⟩ = some (.int .i64 g2) ∧ w'.cell? ⟨ab, 3, none⟩ = some (.int .i64 g3)) 20 (by kernel_rfl) ?_ (fun hHeld => ?_)
  · exact ⟨HS.out.ptr, by rw [← HG.out.1.1]; exact HS.out.a.cell (by decide), by rw [← HG.out.1.2]; exact HS.out.a.cell (by decide), by rw [← HG.out.2.1]; exact HS.out.a.cell (by decide), by rw [← HG.out.2.2]; exact HS.out.a.cell (by decide)⟩
  refine wpAnyM_take 0 (v := ?_) rfl (by kernel_rfl) (fun _ _ _ h => h) (Or.inl ⟨by rfl, ?_⟩) (by assumption) ?_
  rotate_left
  · (intro wx hSw; (try dsimp only at hSw); go_simp; (try with_reducible rfl))
  (try simp only [Act.put, nA, nB, nC])
  refine wpAnyM_take 1 (v := ?_) rfl (by kernel_rfl) (fun _ _ _ h => h) (Or.inl ⟨by rfl, ?_⟩) (by assumption) ?_
  rotate_left
  · (intro wx hSw; (try dsimp only at hSw); go_simp; (try with_reducible rfl))
  (try simp only [Act.put, nA, nB, nC])
  refine wpAnyM_take 2 (v := ?_) rfl (by kernel_rfl) (fun _ _ _ h => h) (Or.inl ⟨by rfl, ?_⟩) (by assumption) ?_
  rotate_left
  · (intro wx hSw; (try dsimp only at hSw); go_simp; (try with_reducible rfl))
  (try simp only [Act.put, nA, nB, nC])
  refine wpAnyM_take 3 (v := ?_) rfl (by kernel_rfl) (fun _ _ _ h => h) (Or.inl ⟨by rfl, ?_⟩) (by assumption) ?_
  rotate_left
  · (intro wx hSw; (try dsimp only at hSw); go_simp; (try with_reducible rfl))
  (try simp only [Act.put, nA, nB, nC])
  refine wpAnyM_take 4 (v := ?_) rfl (by kernel_rfl) (fun _ _ _ h => h) (Or.inl ⟨by rfl, ?_⟩) (by assumption) ?_
  rotate_left
  · (intro wx hSw; (try dsimp only at hSw); go_simp; (try with_reducible rfl))
  (try simp only [Act.put, nA, nB, nC])
  refine wpAnyM_take 5 (v := ?_) rfl (by kernel_rfl) (fun _ _ _ h => h) (Or.inl ⟨by rfl, ?_⟩) (by assumption) ?_
  rotate_left
  · (intro wx hSw; (try dsimp only at hSw); go_simp; (try with_reducible rfl))
  (try simp only [Act.put, nA, nB, nC])
  refine wpAnyM_take 6 (v := ?_) rfl (by kernel_rfl) (fun _ _ _ h => h) (Or.inl ⟨by rfl, ?_⟩) (by assumption) ?_
  rotate_left
  · (intro wx hSw; (try dsimp only at hSw); go_simp; (try with_reducible rfl))
  (try simp only [Act.put, nA, nB, nC])
  refine wpAnyM_take 7 (v := ?_) rfl (by kernel_rfl) (fun _ _ _ h => h) (Or.inl ⟨by rfl, ?_⟩) (by assumption) ?_
  rotate_left
  · (intro wx hSw; (try dsimp only at hSw); go_simp; (try with_reducible rfl))
  (try simp only [Act.put, nA, nB, nC])
  refine wpAnyM_take 8 (v := ?_) rfl (by kernel_rfl) (fun _ _ _ h => h) (Or.inl ⟨by rfl, ?_⟩) (by assumption) ?_
  rotate_left
  · (intro wx hSw; (try dsimp only at hSw); go_simp; (try with_reducible rfl))
  (try simp only [Act.put, nA, nB, nC])
  refine wpAnyM_take 9 (v := ?_) rfl (by kernel_rfl) (fun _ _ _ h => h) (Or.inl ⟨by rfl, ?_⟩) (by assumption) ?_
  rotate_left
  · (intro wx hSw; (try dsimp only at hSw); go_simp; (try with_reducible rfl))
  (try simp only [Act.put, nA, nB, nC])
  refine wpAnyM_take 10 (v := ?_) rfl (by kernel_rfl) (fun _ _ _ h => h) (Or.inl ⟨by rfl, ?_⟩) (by assumption) ?_
  rotate_left
  · (intro wx hSw; (try dsimp only at hSw); go_simp; (try with_reducible rfl))
  (try simp only [Act.put, nA, nB, nC])
  refine wpAnyM_take 11 (v := ?_) rfl (by kernel_rfl) (fun _ _ _ h => h) (Or.inl ⟨by rfl, ?_⟩) (by assumption) ?_
  rotate_left
  · (intro wx hSw; (try dsimp only at hSw); go_simp; (try with_reducible rfl))
  (try simp only [Act.put, nA, nB, nC])
  refine wpAnyM_take 12 (v := ?_) rfl (by kernel_rfl) (fun _ _ _ h => h) (Or.inl ⟨by rfl, ?_⟩) (by assumption) ?_
  rotate_left
  · (intro wx hSw; (try dsimp only at hSw); go_simp; (try with_reducible rfl))
  (try simp only [Act.put, nA, nB, nC])
  refine wpAnyM_take 13 (v := ?_) rfl (by kernel_rfl) (fun _ _ _ h => h) (Or.inl ⟨by rfl, ?_⟩) (by assumption) ?_
  rotate_left
  · (intro wx hSw; (try dsimp only at hSw); go_simp; (try with_reducible rfl))
  (try simp only [Act.put, nA, nB, nC])
  refine wpAnyM_take 14 (v := ?_) rfl (by kernel_rfl) (fun _ _ _ h => h) (Or.inl ⟨by rfl, ?_⟩) (by assumption) ?_
  rotate_left
  · (intro wx hSw; (try dsimp only at hSw); go_simp; (try with_reducible rfl))
  (try simp only [Act.put, nA, nB, nC])
  refine wpAnyM_take 15 (v := ?_) rfl (by kernel_rfl) (fun _ _ _ h => h) (Or.inl ⟨by rfl, ?_⟩) (by assumption) ?_
  rotate_left
  · (intro wx hSw; (try dsimp only at hSw); go_simp; (try with_reducible rfl))
  (try simp only [Act.put, nA, nB, nC])
  refine wpAnyM_take 16 (v := ?_) rfl (by kernel_rfl) (fun _ _ _ h => h) (Or.inl ⟨by rfl, ?_⟩) (by assumption) ?_
  rotate_left
  · (intro wx hSw; (try dsimp only at hSw); go_simp; (try with_reducible rfl))
  (try simp only [Act.put, nA, nB, nC])
  refine wpAnyM_take 17 (v := ?_) rfl (by kernel_rfl) (fun _ _ _ h => h) (Or.inl ⟨by rfl, ?_⟩) (by assumption) ?_
  rotate_left
  · (intro wx hSw; (try dsimp only at hSw); go_simp; (try with_reducible rfl))
  (try simp only [Act.put, nA, nB, nC])
  refine wpAnyM_oneS 18 rfl (by kernel_rfl) (fun K hK => ?_)
  go_simp; have HT := Lib.hid (HS.out.down (Below.alloc (Below.refl _ _) (Nat.le_refl _) (.cells #[.int .i64 p0, .int .i64 p1, .int .i64 p2, .int .i64 p3] 2))); have L4 := Lib.hid (lst4 w.drew 2 p0 p1 p2 p3); clear HS; have HS := HT; clear HT
  clear hHeld
  refine hK.out _ _ ?_ (fun hHeld => ?_)
  · exact ⟨HS.out.ptr, by rw [← HG.out.1.1]; exact HS.out.a.cell (by decide), by rw [← HG.out.1.2]; exact HS.out.a.cell (by decide), by rw [← HG.out.2.1]; exact HS.out.a.cell (by decide), by rw [← HG.out.2.2]; exact HS.out.a.cell (by decide)⟩
  clear hK K
  (try simp only [Act.put, nA, nB, nC])
  refine wpAnyM_oneS 19 rfl (by kernel_rfl) (fun K hK => ?_)
  go_simp
  (refine (dot_any c h 30 q (q4 p0 p1 p2 p3) ab 0 4 w.drew.heap.size 0 4 4 _ HS.out.cell HS.out.free (by decide) (by decide) (by decide) (fun i hi => by rw [Nat.zero_add]; exact HS.out.a.cell hi) L4.out).mono ?_); rintro e w2 ⟨rfl, hu⟩; have HT := Lib.hid (HS.out.upd' hu); clear HS L4 hu; have HS := HT; clear HT
  (try dsimp only)
  (try simp only [Act.put, nA, nB, nC])
  clear hHeld
  refine hK.out _ _ ?_ (fun hHeld => ?_)
  · exact ⟨HS.out.ptr, by rw [← HG.out.1.1]; exact HS.out.a.cell (by decide), by rw [← HG.out.1.2]; exact HS.out.a.cell (by decide), by rw [← HG.out.2.1]; exact HS.out.a.cell (by decide), by rw [← HG.out.2.2]; exact HS.out.a.cell (by decide)⟩
  clear hK K
  (try simp only [Act.put, nA, nB, nC])
  refine wpAnyM_one 20 rfl (by kernel_rfl) (fun K hK => ?_)
  go_simp
  refine hK.out _ _ (.inl (by kernel_rfl)) (fun _ => ?_)
  clear hK K
  (try simp only [Act.put, nA, nB, nC])
  refine wpAnyM_done (by kernel_rfl) ?_ _
  go_wp2_with fail
  go_ret
  exact ⟨rfl, HS.out.upd⟩
set_option maxHeartbeats 4000000 in
theorem rtw_any (c : Addr) (h : Bool) (cb ab : Nat) (q : Nat → Int) (a b d e : Int) (w : World) (S0 : QcR c h cb ab q w w) :
    Calls Try.prog 83 #[.int .i64 a, .int .i64 b, .int .i64 d, .int .i64 e, .pointer (some ⟨cb, 0, none⟩)] w fun e' w' =>
      e' = .returned (.int .i64 (dotV 30 (q4 a a d d) (q4 b b e e) 4)) ∧ Upd c (h || dotH 30 (q4 a a d d) (q4 b b e e) 4) w w' := by
  have HS := Lib.hid S0
  have pc := S0.ptr
  clear S0
  go_enter Try.func83, Try.ntmps83
  go_upto_region 1 with fail
  refine wp_region_lit ?_
  refine wpList_val (v := ?_) rfl ?_ ?_
  rotate_left
  · (go_simp; (try (first | with_reducible rfl | (constructor <;> with_reducible rfl))))
  (try simp only [Act.put, nA, nB, nC])
  refine wpList_val (v := ?_) rfl ?_ ?_
  rotate_left
  · (go_simp; (try (first | with_reducible rfl | (constructor <;> with_reducible rfl))))
  (try simp only [Act.put, nA, nB, nC])
  refine wpList_val (v := ?_) rfl ?_ ?_
  rotate_left
  · (go_simp; (try (first | with_reducible rfl | (constructor <;> with_reducible rfl))))
  (try simp only [Act.put, nA, nB, nC])
  refine wpList_val (v := ?_) rfl ?_ ?_
  rotate_left
  · (go_simp; (try (first | with_reducible rfl | (constructor <;> with_reducible rfl))))
  (try simp only [Act.put, nA, nB, nC])
  refine wpList_val (v := ?_) rfl ?_ ?_
  rotate_left
  · (go_simp; (try (first | with_reducible rfl | (constructor <;> with_reducible rfl))))
  (try simp only [Act.put, nA, nB, nC])
  refine wpList_act (v := ?_) (w' := ?_) rfl ?_ ?_
  rotate_left 2
  · (go_simp; (try (first | with_reducible rfl | (constructor <;> with_reducible rfl))))
  (try simp only [Act.put, nA, nB, nC])
  refine wpList_val (v := ?_) rfl ?_ ?_
  rotate_left
  · (go_simp; (try (first | with_reducible rfl | (constructor <;> with_reducible rfl))))
  (try simp only [Act.put, nA, nB, nC])
  refine wpList_val (v := ?_) rfl ?_ ?_
  rotate_left
  · (go_simp; (try (first | with_reducible rfl | (constructor <;> with_reducible rfl))))
  (try simp only [Act.put, nA, nB, nC])
  refine wpList_val (v := ?_) rfl ?_ ?_
  rotate_left
  · (go_simp; (try (first | with_reducible rfl | (constructor <;> with_reducible rfl))))
  (try simp only [Act.put, nA, nB, nC])
  refine wpList_val (v := ?_) rfl ?_ ?_
  rotate_left
  · (go_simp; (try (first | with_reducible rfl | (constructor <;> with_reducible rfl))))
  (try simp only [Act.put, nA, nB, nC])
  refine wpList_act (v := ?_) (w' := ?_) rfl ?_ ?_
  rotate_left 2
  · (go_simp; (try (first | with_reducible rfl | (constructor <;> with_reducible rfl))))
  (try simp only [Act.put, nA, nB, nC])
  refine wpList_step (fun K hK => ?_)
  go_simp
  have HT := Lib.hid (HS.out.down (Below.alloc (Below.refl _ _) (Nat.le_refl _) (.cells #[.int .i64 a, .int .i64 a, .int .i64 d, .int .i64 d] 2))); have HT2 := Lib.hid (HT.out.down (Below.alloc (Below.refl _ _) (Nat.le_refl _) (.cells #[.int .i64 b, .int .i64 b, .int .i64 e, .int .i64 e] 2))); have LA := Lib.hid (lst4 w 2 a a d d); have LB := Lib.hid (lst4 (w.alloc (.cells #[.int .i64 a, .int .i64 a, .int .i64 d, .int .i64 d] 2)) 2 b b e e); (rw [show (w.alloc (.cells #[.int .i64 a, .int .i64 a, .int .i64 d, .int .i64 d] 2)).heap.size = w.heap.size + 1 from by simp] at LB); (refine (dot_any c h 30 (q4 a a d d) (q4 b b e e) w.heap.size 0 4 (w.heap.size + 1) 0 4 4 _ HT2.out.cell HT2.out.free (by decide) (by decide) (by decide) (fun i hi => (Below.cell ((Below.refl (w.alloc (.cells #[.int .i64 a, .int .i64 a, .int .i64 d, .int .i64 d] 2)).heap.size _).alloc (Nat.le_refl _) _) (by simp)).trans (LA.out i hi)) LB.out).mono ?_); rintro e2 w2 ⟨rfl, hu⟩; have HR := Lib.hid (HT2.out.upd' hu); clear HS HT HT2 LA LB hu
  (try dsimp only)
  (try simp only [Act.put, nA, nB, nC])
  refine hK _ _ ?_
  clear hK K
  refine wpList_val (v := ?_) rfl ?_ ?_
  rotate_left
  · (go_simp; (try (first | with_reducible rfl | (constructor <;> with_reducible rfl))))
  (try simp only [Act.put, nA, nB, nC])
  refine wpList_nil ?_
  go_wp2_with fail
  go_ret
  exact ⟨rfl, HR.out.upd⟩
end Go.Proofs.Ytpoiobgpggiebaa
