/- Contracts of the program's functions and plain laws, part 12: they hold for all arguments. -/
import Derived.Test.YtokcdlcmamdloaaQ11
/- The reference's Innovation; what its Update writes, in its own order. -/
namespace Go.Proofs.Ytokcdlcmamdloaa
open Go.RowKit
set_option maxRecDepth 100000
/-- Four rows laid behind prepared's answer. -/
theorem prep_new (x : World) (P F V A : Nat → Int) : ∀ (X0 : World), X0 = (((x.alloc (.cells Try.zeroCells25 25)).alloc (.cells #[.int .i64 0, .int .i64 0, .int .i64 0, .int .i64 0, .int .i64 0, .int .i64 0, .int .i64 0, .int .i64 0, .int .i64 0, .int .i64 0, .int .i64 0, .int .i64 0, .int .i64 0, .int .i64 0, .int .i64 0, .int .i64 0, .int .i64 0, .int .i64 0, .int .i64 0, .int .i64 0, .int .i64 0, .int .i64 0, .int .i64 0, .int .i64 0] 23)).alloc (.cells #[.int .i64 0, .int .i64 0, .int .i64 0, .int .i64 0, .int .i64 0, .int .i64 0, .int .i64 0, .int .i64 0, .int .i64 0, .int .i64 0, .int .i64 0, .int .i64 0, .int .i64 0, .int .i64 0, .int .i64 0, .int .i64 0, .int .i64 0, .int .i64 0, .int .i64 0, .int .i64 0, .int .i64 0, .int .i64 0, .int .i64 0, .int .i64 0] 23)).alloc (.cells #[.int .i64 0, .int .i64 0, .int .i64 0, .int .i64 0, .int .i64 0, .int .i64 0, .int .i64 0, .int .i64 0, .int .i64 0, .int .i64 0, .int .i64 0, .int .i64 0, .int .i64 0, .int .i64 0, .int .i64 0, .int .i64 0, .int .i64 0, .int .i64 0, .int .i64 0, .int .i64 0, .int .i64 0, .int .i64 0, .int .i64 0, .int .i64 0, .int .i64 0] 78) →
    Blk X0 x.heap.size 25 300 (fun _ => 0) ∧ ∀ (X1 : World), X1 = X0.setRow x.heap.size (arrv 300 P) →
      Blk X1 (x.heap.size + 1) 23 24 (fun _ => 0) ∧ ∀ (X2 : World), X2 = X1.setRow (x.heap.size + 1) (arrv 24 F) →
        Blk X2 (x.heap.size + 1 + 1) 23 24 (fun _ => 0) ∧ ∀ (X3 : World), X3 = X2.setRow (x.heap.size + 1 + 1) (arrv 24 V) →
          Blk X3 (x.heap.size + 1 + 1 + 1) 78 25 (fun _ => 0) ∧ ∀ (X4 : World), X4 = X3.setRow (x.heap.size + 1 + 1 + 1) (arrv 25 A) →
            Blk X4 (x.heap.size + 1 + 1 + 1) 78 25 A ∧ Below x.heap.size x X4 := by
  rintro X0 rfl
  rw [zcov, zcol, z25]
  have Z0 := ((Blk.new x 25 300 (fun _ => 0)).alloc (.cells (arrv 24 (fun _ => 0)) 23)).alloc (.cells (arrv 24 (fun _ => 0)) 23) |>.alloc (.cells (arrv 25 (fun _ => 0)) 78)
  have Z1 := ((Blk.new1 x (.cells (arrv 300 (fun _ => 0)) 25) 23 24 (fun _ => 0)).alloc (.cells (arrv 24 (fun _ => 0)) 23)).alloc (.cells (arrv 25 (fun _ => 0)) 78)
  have Z2 := (blk_new2 x (.cells (arrv 300 (fun _ => 0)) 25) (.cells (arrv 24 (fun _ => 0)) 23) 23 24 (fun _ => 0)).alloc (.cells (arrv 25 (fun _ => 0)) 78)
  have Z3 := blk_new3 x (.cells (arrv 300 (fun _ => 0)) 25) (.cells (arrv 24 (fun _ => 0)) 23) (.cells (arrv 24 (fun _ => 0)) 23) 78 25 (fun _ => 0)
  refine ⟨Z0, ?_⟩
  rintro X1 rfl
  refine ⟨Z1.setRow_other _ (by omega), ?_⟩
  rintro X2 rfl
  refine ⟨(Z2.setRow_other _ (by omega)).setRow_other _ (by omega), ?_⟩
  rintro X3 rfl
  refine ⟨((Z3.setRow_other _ (by omega)).setRow_other _ (by omega)).setRow_other _ (by omega), ?_⟩
  rintro X4 rfl
  refine ⟨(((Z3.setRow_other _ (by omega)).setRow_other _ (by omega)).setRow_other _ (by omega)).setRow _, ?_⟩
  exact below_row (below_row (below_row (below_row (by (repeat (first | with_reducible exact Below.refl _ _ | with_reducible apply Below.drew | (with_reducible refine below_drewN ?_ _) | (with_reducible refine Below.alloc ?_ (by (try simp) <;> omega) _) | (with_reducible refine Below.setCell ?_ (by (try simp) <;> omega) _)))) (by omega) _) (by omega) _) (by omega) _) (by omega) _
set_option maxHeartbeats 2000000 in
theorem rinno_any (c : Addr) (h : Bool) (p H : Nat → Int) (r : Int) (w : World) (hc : w.cell? c = some (.bool h)) (hf : w.frozen? c = false) :
    Calls Try.prog 13 #[.pointer (some c), .agg (arrv 300 p), .agg (arrv 24 H), .int .i64 r] w fun e w' =>
      e = .returned (.int .i64 (updS p H r)) ∧ Upd c (h || lkH p H r) w w' := by
  have hcb := World.block_lt_of_cell? w c hc
  have HC := Lib.hid hc
  have HF := Lib.hid hf
  clear hc hf
  go_enter Try.func13, Try.ntmps13
  have P0 : Blk ((w.alloc (.cells (arrv 300 p) 25)).alloc (.cells (arrv 24 H) 23)) w.heap.size 25 300 p := (Blk.new w _ _ _).alloc _
  have R0 : Blk ((w.alloc (.cells (arrv 300 p) 25)).alloc (.cells (arrv 24 H) 23)) (w.heap.size + 1) 23 24 H := Blk.new1 w _ _ _ _
  have U0 : Upd c h w ((w.alloc (.cells (arrv 300 p) 25)).alloc (.cells (arrv 24 H) 23)) := Upd.then (Upd.refl HC.out) (by (repeat (first | with_reducible exact Below.refl _ _ | with_reducible apply Below.drew | (with_reducible refine below_drewN ?_ _) | (with_reducible refine Below.alloc ?_ (by (try simp) <;> omega) _) | (with_reducible refine Below.setCell ?_ (by (try simp) <;> omega) _))))
  go_upto_region 1 with fail
  generalize (w.alloc (.cells (arrv 300 p) 25)).alloc (.cells (arrv 24 H) 23) = W0 at *
  have PC := Lib.hid (rprep_any c h p H r W0 (U0.cellc HC.out) ((U0.frozen hcb).trans HF.out))
  have HU0 := Lib.hid U0
  clear U0
  obtain ⟨F, hF⟩ : ∃ x, bkF (condF p) (satS H 24) = x := ⟨_, rfl⟩
  obtain ⟨V, hV⟩ : ∃ x, bkV (condF p) (satS H 24) = x := ⟨_, rfl⟩
  obtain ⟨A, hA⟩ : ∃ x, bkA (condF p) (satS H 24) (varV r) = x := ⟨_, rfl⟩
  rw [hF, hV, hA] at PC
  have ES := Lib.hid (show updS p H r = A 24 by rw [← hA, updS])
  clear hF hV hA
  refine wp_region_lit ?_
  refine wpList_val (v := ?_) rfl ?_ ?_
  rotate_left
  · (go_simp; (try (first | with_reducible rfl | (constructor <;> with_reducible rfl))))
  (try simp only [Act.put, List.setIfInBounds_toArray, List.set_cons_zero, List.set_cons_succ])
  refine wpList_val (v := ?_) rfl ?_ ?_
  rotate_left
  · refine Eq.trans (run_load_row 25 (.tmp 5) (by rfl) (w.heap.size) (by rfl) _ _ _ _ (P0) Try.underlying25 rfl (icov.trans (by rw [arrv_size]))) ?_; with_reducible rfl
  (try simp only [Act.put, List.setIfInBounds_toArray, List.set_cons_zero, List.set_cons_succ])
  refine wpList_val (v := ?_) rfl ?_ ?_
  rotate_left
  · refine Eq.trans (run_load_row 23 (.tmp 6) (by rfl) (w.heap.size + 1) (by rfl) _ _ _ _ (R0) Try.underlying23 rfl (icol.trans (by rw [arrv_size]))) ?_; with_reducible rfl
  (try simp only [Act.put, List.setIfInBounds_toArray, List.set_cons_zero, List.set_cons_succ])
  refine wpList_val (v := ?_) rfl ?_ ?_
  rotate_left
  · (go_simp; (try (first | with_reducible rfl | (constructor <;> with_reducible rfl))))
  (try simp only [Act.put, List.setIfInBounds_toArray, List.set_cons_zero, List.set_cons_succ])
  refine wpList_step (fun K hK => ?_)
  go_simp
  (refine PC.out.mono ?_); rintro e w1 ⟨rfl, hu1⟩; have HU1 := Lib.hid hu1; clear hu1; obtain ⟨N0, n1⟩ := prep_new w1 (condF p) F V A _ rfl; obtain ⟨N1, n2⟩ := n1 _ rfl; obtain ⟨N2, n3⟩ := n2 _ rfl; obtain ⟨N3, n4⟩ := n3 _ rfl; obtain ⟨N4, NB⟩ := n4 _ rfl; clear n1 n2 n3 n4
  (try dsimp only)
  (try simp only [Act.put, List.setIfInBounds_toArray, List.set_cons_zero, List.set_cons_succ])
  refine hK _ _ ?_
  clear hK K
  refine wpList_val (v := ?_) rfl ?_ ?_
  rotate_left
  · (go_simp; (try (first | with_reducible rfl | (constructor <;> with_reducible rfl))))
  (try simp only [Act.put, List.setIfInBounds_toArray, List.set_cons_zero, List.set_cons_succ])
  refine wpList_val (v := ?_) rfl ?_ ?_
  rotate_left
  · (go_simp; (try (first | with_reducible rfl | (constructor <;> with_reducible rfl))))
  (try simp only [Act.put, List.setIfInBounds_toArray, List.set_cons_zero, List.set_cons_succ])
  refine wpList_val (v := ?_) rfl ?_ ?_
  rotate_left
  · (go_simp; (try (first | with_reducible rfl | (constructor <;> with_reducible rfl))))
  (try simp only [Act.put, List.setIfInBounds_toArray, List.set_cons_zero, List.set_cons_succ])
  refine wpList_val (v := ?_) rfl ?_ ?_
  rotate_left
  · (go_simp; (try (first | with_reducible rfl | (constructor <;> with_reducible rfl))))
  (try simp only [Act.put, List.setIfInBounds_toArray, List.set_cons_zero, List.set_cons_succ])
  refine wpList_val (v := ?_) rfl ?_ ?_
  rotate_left
  · (go_simp; (try (first | with_reducible rfl | (constructor <;> with_reducible rfl))))
  (try simp only [Act.put, List.setIfInBounds_toArray, List.set_cons_zero, List.set_cons_succ])
  refine wpList_act (v := ?_) (w' := ?_) rfl ?_ ?_
  rotate_left 2
  · (go_simp; (try (first | with_reducible rfl | (constructor <;> with_reducible rfl))))
  (try simp only [Act.put, List.setIfInBounds_toArray, List.set_cons_zero, List.set_cons_succ])
  refine wpList_act (v := ?_) (w' := ?_) rfl ?_ ?_
  rotate_left 2
  · (go_simp; (try (first | with_reducible rfl | (constructor <;> with_reducible rfl))))
  (try simp only [Act.put, List.setIfInBounds_toArray, List.set_cons_zero, List.set_cons_succ])
  refine wpList_act (v := ?_) (w' := ?_) rfl ?_ ?_
  rotate_left 2
  · (go_simp; (try (first | with_reducible rfl | (constructor <;> with_reducible rfl))))
  (try simp only [Act.put, List.setIfInBounds_toArray, List.set_cons_zero, List.set_cons_succ])
  refine wpList_act (v := ?_) (w' := ?_) rfl ?_ ?_
  rotate_left 2
  · (go_simp; (try (first | with_reducible rfl | (constructor <;> with_reducible rfl))))
  (try simp only [Act.put, List.setIfInBounds_toArray, List.set_cons_zero, List.set_cons_succ])
  refine wpList_done (w' := ?_) rfl ?_ ?_
  rotate_left
  · refine Eq.trans (run_store_row 25 (.tmp 9) (.tmp 19) (by rfl) (w1.heap.size) (by rfl) (by rfl) (N0) (icov.trans rfl)) ?_; with_reducible rfl
  (try simp only [Act.put, List.setIfInBounds_toArray, List.set_cons_zero, List.set_cons_succ])
  refine wpList_done (w' := ?_) rfl ?_ ?_
  rotate_left
  · refine Eq.trans (run_store_row 23 (.tmp 10) (.tmp 20) (by rfl) (w1.heap.size + 1) (by rfl) (by rfl) (N1) (icol.trans rfl)) ?_; with_reducible rfl
  (try simp only [Act.put, List.setIfInBounds_toArray, List.set_cons_zero, List.set_cons_succ])
  refine wpList_done (w' := ?_) rfl ?_ ?_
  rotate_left
  · refine Eq.trans (run_store_row 23 (.tmp 11) (.tmp 21) (by rfl) (w1.heap.size + 1 + 1) (by rfl) (by rfl) (N2) (icol.trans rfl)) ?_; with_reducible rfl
  (try simp only [Act.put, List.setIfInBounds_toArray, List.set_cons_zero, List.set_cons_succ])
  refine wpList_done (w' := ?_) rfl ?_ ?_
  rotate_left
  · refine Eq.trans (run_store_row 78 (.tmp 12) (.tmp 22) (by rfl) (w1.heap.size + 1 + 1 + 1) (by rfl) (by rfl) (N3) (ia25.trans rfl)) ?_; with_reducible rfl
  (try simp only [Act.put, List.setIfInBounds_toArray, List.set_cons_zero, List.set_cons_succ])
  refine wpList_nil ?_
  have s0 := N4.cell (i := 24) (by omega)
  have HN := Lib.hid NB
  clear N0 N1 N2 N3 N4 NB
  go_wp2_with fail
  go_ret
  exact ⟨retI ES.out.symm, HU0.out.trans (HU1.out.then HN.out)⟩
/-- Column j, in the reference's order: its m first numbers made, its D not yet. -/
def rOm (O p h : Nat → Int) (r : Int) (j : Nat) : Nat → Nat → Int | 0 => O | m + 1 => upd (rOm O p h r j m) (pl m j) (upU p h r j m)
theorem pl_in2 {i j i' j' : Nat} (h : i < j) (h' : i' < j') (e : pl i j = pl i' j') : i = i' ∧ j = j' := by
  have key : ∀ a b : Nat, a < b → a * (a - 1) / 2 + a ≤ b * (b - 1) / 2 := by
    intro a b hab
    have h1 : (a + 1) * a ≤ b * (b - 1) := Nat.mul_le_mul (by omega) (by omega)
    have h2 : a * (a - 1) + 2 * a = (a + 1) * a := by
      cases a with
      | zero => rfl
      | succ n => rw [Nat.add_sub_cancel, Nat.mul_comm 2, ← Nat.mul_add, Nat.mul_comm]
    omega
  unfold pl at e
  rcases Nat.lt_trichotomy j j' with hj | hj | hj
  · have := key j j' hj; omega
  · subst hj; omega
  · have := key j' j hj; omega
theorem rOm_D (O p h : Nat → Int) (r : Int) {j : Nat} (hj : j < 24) (d : Int) : ∀ m, m ≤ j → upd (rOm O p h r j m) (276 + j) (upD p h r j) = upOm O p h r j m
  | 0, _ => rfl
  | m + 1, hm => by
    have hp := pl_lt (i := m) (j := j) (by omega) hj
    simp only [upOm, rOm]
    rw [← rOm_D O p h r hj d m (by omega)]
    funext x
    simp only [upd]
    split <;> split <;> first | rfl | omega
theorem rOm_at (O p h : Nat → Int) (r : Int) {j : Nat} (hj : j < 24) : ∀ m, m ≤ j → (∀ x, 276 ≤ x → rOm O p h r j m x = O x) ∧ (∀ i j', i < j' → j' < 24 → (j' ≠ j ∨ m ≤ i) → rOm O p h r j m (pl i j') = O (pl i j'))
  | 0, _ => ⟨fun _ _ => rfl, fun _ _ _ _ _ => rfl⟩
  | m + 1, hm => by
    obtain ⟨h1, h2⟩ := rOm_at O p h r hj m (by omega)
    have hp := pl_lt (i := m) (j := j) (by omega) hj
    refine ⟨fun x hx => ?_, fun i j' hi hj' hor => ?_⟩
    · simp only [rOm, upd]; rw [if_neg (by omega)]; exact h1 x hx
    · simp only [rOm, upd]
      rw [if_neg (fun e => by have := pl_in2 hi (show m < j by omega) e; omega)]
      exact h2 i j' hi hj' (by omega)
/-- What the columns from j on are, when j are done: as they were. -/
theorem upO_keep (p h : Nat → Int) (r : Int) : ∀ j, j ≤ 24 → (∀ i, j ≤ i → i < 24 → upO p h r j (276 + i) = p (276 + i)) ∧ (∀ i j', i < j' → j' < 24 → j ≤ j' → upO p h r j (pl i j') = p (pl i j'))
  | 0, _ => ⟨fun _ _ _ => rfl, fun _ _ _ _ _ => rfl⟩
  | j + 1, hj => by
    obtain ⟨h1, h2⟩ := upO_keep p h r j (by omega)
    obtain ⟨g1, g2⟩ := rOm_at (upO p h r j) p h r (show j < 24 by omega) j (Nat.le_refl _)
    have e := rOm_D (upO p h r j) p h r (show j < 24 by omega) 0 j (Nat.le_refl _)
    refine ⟨fun i hi hi' => ?_, fun i j' hi hj' hjj => ?_⟩
    · show upOm (upO p h r j) p h r j j (276 + i) = _
      rw [← e]; simp only [upd]; rw [if_neg (by omega), g1 _ (by omega)]; exact h1 i (by omega) hi'
    · have hp := pl_lt hi hj'
      show upOm (upO p h r j) p h r j j (pl i j') = _
      rw [← e]; simp only [upd]; rw [if_neg (by omega), g2 i j' hi hj' (by omega)]; exact h2 i j' hi hj' (by omega)
/-- What the reference reads in column j. -/
theorem rOm_uV (p h : Nat → Int) (r : Int) {i j : Nat} (hj : j < 24) (hi : i < j) : uV (rOm (upO p h r j) p h r j i) i j = uV p i j := by
  unfold uV
  have h0 : ¬ i = j := by omega
  rw [if_neg h0, if_neg h0, if_pos hi, if_pos hi]
  rw [(rOm_at _ p h r hj i (by omega)).2 i j hi hj (by omega)]
  exact (upO_keep p h r j (by omega)).2 i j hi hj (by omega)
end Go.Proofs.Ytokcdlcmamdloaa
/- The reference's Update: its blocks. -/
namespace Go.Proofs.Ytokcdlcmamdloaa
open Go.RowKit
set_option maxRecDepth 100000
open Go in
/-- The results of a function that gives two rows and a number. -/
theorem results_two {P : Program} {fn : Func} {p q u : Tmp} {ty ty' : TypeId} (h : fn.results = #[.cell p ty, .cell q ty', .tmp u]) (tmps : Array Value) (w : World) (g g' : Nat) (t t' : TypeId) (cs cs' : Array Value) (fr fr' : Nat × Nat) (d d' : TypeDesc)
    (hp : tmps.getD p undef = .pointer (some ⟨g, 0, none⟩)) (hg : w.heap[g]? = some (.cells cs t fr))
    (hu : P.underlying ty = some d) (hd : (match d with | .struct _ | .array _ _ => true | _ => false) = true) (hi : (P.info? ty).map (·.size) = some cs.size)
    (hp' : tmps.getD q undef = .pointer (some ⟨g', 0, none⟩)) (hg' : w.heap[g']? = some (.cells cs' t' fr'))
    (hu' : P.underlying ty' = some d') (hd' : (match d' with | .struct _ | .array _ _ => true | _ => false) = true) (hi' : (P.info? ty').map (·.size) = some cs'.size)
    (v : Value) (hv : tmps.getD u undef = v) :
    (results fn tmps).run P w = .ok (.tuple #[.agg cs, .agg cs', v]) w := by
  have e1 : tmps[p]?.getD undef = .pointer (some ⟨g, 0, none⟩) := by simpa using hp
  have e2 : tmps[q]?.getD undef = .pointer (some ⟨g', 0, none⟩) := by simpa using hp'
  have e3 : tmps[u]?.getD undef = v := by simpa using hv
  simp [results, h, e1, e2, e3, asAddr, run_loadVar_row w g t ty cs fr d hg hu hd hi, run_loadVar_row w g' t' ty' cs' fr' d' hg' hu' hd' hi']
theorem divV_bd2 (a b s : Int) : -1152921504606846976 ≤ divV a b s ∧ divV a b s ≤ 1152921504606846976 := by
  unfold divV byV
  split
  · omega
  · split
    · split
      · omega
      · split <;> omega
    · exact satV_bd _
/-- Rows laid behind prepared's answer in Update. -/
theorem upd_new (x : World) (b : Nat) (p0 P F V A : Nat → Int) (hb : Blk x b 25 300 p0) : ∀ (X0 : World), X0 = ((x.alloc (.cells #[.int .i64 0, .int .i64 0, .int .i64 0, .int .i64 0, .int .i64 0, .int .i64 0, .int .i64 0, .int .i64 0, .int .i64 0, .int .i64 0, .int .i64 0, .int .i64 0, .int .i64 0, .int .i64 0, .int .i64 0, .int .i64 0, .int .i64 0, .int .i64 0, .int .i64 0, .int .i64 0, .int .i64 0, .int .i64 0, .int .i64 0, .int .i64 0] 23)).alloc (.cells #[.int .i64 0, .int .i64 0, .int .i64 0, .int .i64 0, .int .i64 0, .int .i64 0, .int .i64 0, .int .i64 0, .int .i64 0, .int .i64 0, .int .i64 0, .int .i64 0, .int .i64 0, .int .i64 0, .int .i64 0, .int .i64 0, .int .i64 0, .int .i64 0, .int .i64 0, .int .i64 0, .int .i64 0, .int .i64 0, .int .i64 0, .int .i64 0] 23)).alloc (.cells #[.int .i64 0, .int .i64 0, .int .i64 0, .int .i64 0, .int .i64 0, .int .i64 0, .int .i64 0, .int .i64 0, .int .i64 0, .int .i64 0, .int .i64 0, .int .i64 0, .int .i64 0, .int .i64 0, .int .i64 0, .int .i64 0, .int .i64 0, .int .i64 0, .int .i64 0, .int .i64 0, .int .i64 0, .int .i64 0, .int .i64 0, .int .i64 0, .int .i64 0] 78) →
    Blk X0 b 25 300 p0 ∧ ∀ (X1 : World), X1 = X0.setRow b (arrv 300 P) →
      Blk X1 x.heap.size 23 24 (fun _ => 0) ∧ ∀ (X2 : World), X2 = X1.setRow x.heap.size (arrv 24 F) →
        Blk X2 (x.heap.size + 1) 23 24 (fun _ => 0) ∧ ∀ (X3 : World), X3 = X2.setRow (x.heap.size + 1) (arrv 24 V) →
          Blk X3 (x.heap.size + 1 + 1) 78 25 (fun _ => 0) ∧ ∀ (X4 : World), X4 = X3.setRow (x.heap.size + 1 + 1) (arrv 25 A) →
            Blk X4 b 25 300 P ∧ Blk X4 x.heap.size 23 24 F ∧ Blk X4 (x.heap.size + 1) 23 24 V ∧ Blk X4 (x.heap.size + 1 + 1) 78 25 A ∧ Below b x X4 ∧
            (∀ (k T n : Nat) (f : Nat → Int), k ≠ b → Blk x k T n f → Blk X4 k T n f) := by
  have hl := hb.lt
  rintro X0 rfl
  rw [zcol, z25]
  have Z1 := ((Blk.new x 23 24 (fun _ => 0)).alloc (.cells (arrv 24 (fun _ => 0)) 23)).alloc (.cells (arrv 25 (fun _ => 0)) 78)
  have Z2 := (Blk.new1 x (.cells (arrv 24 (fun _ => 0)) 23) 23 24 (fun _ => 0)).alloc (.cells (arrv 25 (fun _ => 0)) 78)
  have Z3 := blk_new2 x (.cells (arrv 24 (fun _ => 0)) 23) (.cells (arrv 24 (fun _ => 0)) 23) 78 25 (fun _ => 0)
  have ZP := ((hb.alloc (.cells (arrv 24 (fun _ => 0)) 23)).alloc (.cells (arrv 24 (fun _ => 0)) 23)).alloc (.cells (arrv 25 (fun _ => 0)) 78)
  refine ⟨ZP, ?_⟩
  rintro X1 rfl
  refine ⟨Z1.setRow_other _ (by omega), ?_⟩
  rintro X2 rfl
  refine ⟨(Z2.setRow_other _ (by omega)).setRow_other _ (by omega), ?_⟩
  rintro X3 rfl
  refine ⟨((Z3.setRow_other _ (by omega)).setRow_other _ (by omega)).setRow_other _ (by omega), ?_⟩
  rintro X4 rfl
  refine ⟨(((ZP.setRow _).setRow_other _ (by omega)).setRow_other _ (by omega)).setRow_other _ (by omega), (((Z1.setRow_other _ (by omega)).setRow _).setRow_other _ (by omega)).setRow_other _ (by omega),
    (((Z2.setRow_other _ (by omega)).setRow_other _ (by omega)).setRow _).setRow_other _ (by omega), (((Z3.setRow_other _ (by omega)).setRow_other _ (by omega)).setRow_other _ (by omega)).setRow _, ?_, ?_⟩
  · exact below_row (below_row (below_row (below_row (((( Below.refl b x).alloc (by omega) _).alloc (by simp; omega) _).alloc (by simp; omega) _) (Nat.le_refl _) _) (by omega) _) (by omega) _) (by omega) _
  · intro k T n f hk hB
    have := hB.lt
    exact ((((((hB.alloc _).alloc _).alloc _).setRow_other _ (by omega)).setRow_other _ (by omega)).setRow_other _ (by omega)).setRow_other _ (by omega)
/-- What holds in the reference's Update. -/
structure UrR (c : Addr) (h : Bool) (fb vb ab bb : Nat) (F V A O B : Nat → Int) (w wr : World) : Prop where
  up : Upd c h w wr
  pB : Blk wr w.heap.size 25 300 O
  z0 : Blk wr (w.heap.size + 1 + 1) 25 300 (fun _ => 0)
  z1 : Blk wr (w.heap.size + 1 + 1 + 1) 23 24 (fun _ => 0)
  fB : Blk wr fb 23 24 F
  vB : Blk wr vb 23 24 V
  aB : Blk wr ab 78 25 A
  bB : Blk wr bb 23 24 B
  ord : w.heap.size + 3 < fb ∧ fb < vb ∧ vb < ab ∧ ab < bb
theorem UrR.upd' {c : Addr} {h h' : Bool} {fb vb ab bb : Nat} {F V A O B : Nat → Int} {w wr w' : World} (s : UrR c h fb vb ab bb F V A O B w wr) (hc : c.block < w.heap.size) (u : Upd c h' wr w') : UrR c h' fb vb ab bb F V A O B w w' := by
  have o := s.ord
  exact ⟨s.up.trans u, s.pB.upd u (by omega), s.z0.upd u (by omega), s.z1.upd u (by omega), s.fB.upd u (by omega), s.vB.upd u (by omega), s.aB.upd u (by omega), s.bB.upd u (by omega), s.ord⟩
theorem UrR.below {c : Addr} {h : Bool} {fb vb ab bb : Nat} {F V A O B : Nat → Int} {w wr w' : World} (s : UrR c h fb vb ab bb F V A O B w wr) (b : Below wr.heap.size wr w') : UrR c h fb vb ab bb F V A O B w w' :=
  ⟨s.up.then b, s.pB.below b, s.z0.below b, s.z1.below b, s.fB.below b, s.vB.below b, s.aB.below b, s.bB.below b, s.ord⟩
theorem UrR.setP {c : Addr} {h : Bool} {fb vb ab bb : Nat} {F V A O B : Nat → Int} {w wr : World} (s : UrR c h fb vb ab bb F V A O B w wr) (o : Nat) (v : Int) : UrR c h fb vb ab bb F V A (upd O o v) B w (wr.setCell ⟨w.heap.size, o, none⟩ (.int .i64 v)) := by
  have k := s.ord
  exact ⟨s.up.setCell (by simp) _, s.pB.set _ _, s.z0.other (by simp; omega) _, s.z1.other (by simp; omega) _, s.fB.other (by simp; omega) _, s.vB.other (by simp; omega) _, s.aB.other (by simp; omega) _, s.bB.other (by simp; omega) _, s.ord⟩
theorem UrR.setB {c : Addr} {h : Bool} {fb vb ab bb : Nat} {F V A O B : Nat → Int} {w wr : World} (s : UrR c h fb vb ab bb F V A O B w wr) (o : Nat) (v : Int) : UrR c h fb vb ab bb F V A O (upd B o v) w (wr.setCell ⟨bb, o, none⟩ (.int .i64 v)) := by
  have k := s.ord
  exact ⟨s.up.setCell (by simp; omega) _, s.pB.other (by simp; omega) _, s.z0.other (by simp; omega) _, s.z1.other (by simp; omega) _, s.fB.other (by simp; omega) _, s.vB.other (by simp; omega) _, s.aB.other (by simp; omega) _, s.bB.set _ _, s.ord⟩
theorem UrR.cong {c : Addr} {h : Bool} {fb vb ab bb : Nat} {F V A O B O' B' : Nat → Int} {w wr : World} (s : UrR c h fb vb ab bb F V A O B w wr) (hO : ∀ i, i < 300 → O i = O' i) (hB : ∀ i, i < 24 → B i = B' i) : UrR c h fb vb ab bb F V A O' B' w wr :=
  ⟨s.up, s.pB.congr hO, s.z0, s.z1, s.fB, s.vB, s.aB, s.bB.congr hB, s.ord⟩
theorem ur_step {P S : Nat → Int} {R UV BV VV YV MV NV : Int} {j m : Nat} {MM NM HX HM : Bool} (h1 : uV P m j = UV) (h2 : upB P S j m = BV) (h3 : bkV P S j = VV) (h4 : upX P S R j = YV) (h5 : mulV BV YV 44 = MV) (h6 : mulH BV YV 44 = MM) (h7 : mulV UV VV 30 = NV) (h8 : mulH UV VV 30 = NM) (h9 : (HX || orB (upRH P S R j) m) = HM) :
    (HX || orB (upRH P S R j) (m + 1)) = (HM || MM || addH UV MV || NM || addH BV NV) ∧ upU P S R j m = addV UV MV ∧ (m < j → ∀ x, upd (upBm P S j m) m (addV BV NV) x = upBm P S j (m + 1) x) := by
  have e1 : upRH P S R j m = (MM || addH UV MV || (NM || addH BV NV)) := by
    unfold upRH upUH upBH
    rw [h1, h2, h3, h4, h5, h6, h7, h8]
  refine ⟨?_, ?_, fun hm x => ?_⟩
  · rw [← h9]; simp only [orB]; rw [e1]; simp only [Bool.or_assoc]
  · unfold upU; rw [h1, h2, h4, h5]
  · simp only [upd, upBm]
    by_cases hx : x = m
    · subst hx; rw [if_pos rfl, if_neg (show ¬ x = j by omega), if_pos (by omega), h1, h2, h3, h7]
    · rw [if_neg hx]
      by_cases hj : x = j
      · rw [if_pos hj, if_pos hj]
      · rw [if_neg hj, if_neg hj]; split <;> split <;> first | rfl | omega
theorem ur_col {P S : Nat → Int} {R PD AV AW FV MD XV : Int} {j : Nat} {HU HJ MH XH HK HX : Bool} (h1 : (HU || orB (upCH P S R) j) = HJ) (h2 : P (276 + j) = PD) (h3 : bkA P S R j = AV) (h4 : bkA P S R (j + 1) = AW) (h5 : bkF P S j = FV) (h6 : mdivV PD AV AW = MD) (h7 : mdivH PD AV AW = MH) (h8 : divV FV AV 44 = XV) (h9 : divH FV AV 44 = XH)
    (g1 : (HJ || MH || varH MD) = HK) (g2 : (HK || XH) = HX) : (HU || orB (upCH P S R) (j + 1)) = (HX || orB (upRH P S R j) j) ∧ upD P S R j = varV MD ∧ upX P S R j = -XV := by
  refine ⟨?_, ?_, ?_⟩
  · rw [← g2, ← g1, ← h1]
    have e1 : upDH P S R j = (MH || varH MD) := by unfold upDH; rw [h2, h3, h4, h6, h7]
    have e2 : upXH P S R j = XH := by unfold upXH; rw [h5, h3, h9]
    simp only [orB, upCH, e1, e2, Bool.or_assoc]
  · unfold upD; rw [h2, h3, h4, h6]
  · unfold upX; rw [h5, h3, h8]
theorem trivial_eq {α : Type} (x : α) : x = x := rfl
theorem ur_gain {P S B0 : Nat → Int} {R SV : Int} (h1 : upB P S 24 = B0) (h2 : bkA P S R 24 = SV) (i : Nat) : upG P S R i = divV (B0 i) SV 30 ∧ upGH P S R i = divH (B0 i) SV 30 := by
  unfold upG upGH
  rw [h1, h2]
  exact ⟨trivial_eq _, trivial_eq _⟩
/-- The two rows that are told. -/
theorem ur_rows {c : Addr} {h : Bool} {fb vb ab bb : Nat} {F V A O B : Nat → Int} {w x : World} (s : UrR c h fb vb ab bb F V A O B w x) :
    (Blk x w.heap.size 25 300 O ∧ Blk x bb 23 24 B ∧ Blk x ab 78 25 A) ∧
    (∀ (X1 : World), X1 = x.setRow (w.heap.size + 1 + 1) (arrv 300 O) → (Blk X1 w.heap.size 25 300 O ∧ Blk X1 bb 23 24 B ∧ Blk X1 ab 78 25 A) ∧ Blk X1 (w.heap.size + 1 + 1 + 1) 23 24 (fun _ => 0) ∧
      ∀ (X2 : World), X2 = X1.setRow (w.heap.size + 1 + 1 + 1) (arrv 24 B) → (Blk X2 w.heap.size 25 300 O ∧ Blk X2 bb 23 24 B ∧ Blk X2 ab 78 25 A) ∧
        (Blk X2 (w.heap.size + 1 + 1) 25 300 O ∧ Blk X2 (w.heap.size + 1 + 1 + 1) 23 24 B) ∧ Upd c h w X2) := by
  obtain ⟨u, pB, z0, z1, fB, vB, aB, bB, o⟩ := s
  refine ⟨⟨pB, bB, aB⟩, ?_⟩
  rintro X1 rfl
  refine ⟨⟨pB.setRow_other _ (by omega), bB.setRow_other _ (by omega), aB.setRow_other _ (by omega)⟩, z1.setRow_other _ (by omega), ?_⟩
  rintro X2 rfl
  refine ⟨⟨(pB.setRow_other _ (by omega)).setRow_other _ (by omega), (bB.setRow_other _ (by omega)).setRow_other _ (by omega), (aB.setRow_other _ (by omega)).setRow_other _ (by omega)⟩, ⟨(z0.setRow _).setRow_other _ (by omega), (z1.setRow_other _ (by omega)).setRow _⟩, ?_⟩
  exact (u.then' (below_row (Below.refl _ _) (by omega) _)).then' (below_row (Below.refl _ _) (by omega) _)
end Go.Proofs.Ytokcdlcmamdloaa
