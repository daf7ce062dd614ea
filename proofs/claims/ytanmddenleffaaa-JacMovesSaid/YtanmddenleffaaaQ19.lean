/- Contracts of the program's functions and plain laws, part 19: they hold for all arguments. -/
import Derived.Test.YtanmddenleffaaaQ18
import Derived.Test.YtanmddenleffaaaQ14
import Derived.Test.YtanmddenleffaaaQ04
import Derived.Test.YtanmddenleffaaaQ08
import Derived.Laws.CopyOwn
import Derived.Test.YtanmddenleffaaaQ16
import Derived.Test.YtanmddenleffaaaQ17
/- Contract of jac.Step. -/
namespace Go.Proofs.Ytanmddenleffaaa
open Go.RowKit
set_option maxRecDepth 100000
def jsF (P S I N : Nat → Int) : Nat → Int := stepF P (jofF S I) (noF N (I 1))
def jsH (P S I N : Nat → Int) : Bool := jofH S I || noH N (I 1) || stepH P (jofF S I) (noF N (I 1))
theorem js_start (c : Addr) (h : Bool) (P S I N : Nat → Int) (w : World) (hc : w.cell? c = some (.bool h)) (hf : w.frozen? c = false) :
    LsR c h [⟨w.heap.size + 1 + 1 + 1 + 1, 59, 300, fun _ => 0⟩, ⟨w.heap.size + 1 + 1 + 1, 26, 24, N⟩, ⟨w.heap.size + 1 + 1, 33, 8, I⟩, ⟨w.heap.size + 1, 30, 24, S⟩, ⟨w.heap.size, 59, 300, P⟩] (w.heap.size + 1 + 1 + 1 + 1 + 1) w
      (((((w.alloc (.cells (arrv 300 P) 59)).alloc (.cells (arrv 24 S) 30)).alloc (.cells (arrv 8 I) 33)).alloc (.cells (arrv 24 N) 26)).alloc (.cells Try.zeroCells59 59)) := by
  rw [zcov]
  simpa using (((((ls_nil hc hf).lay 59 300 P).lay 30 24 S).lay 33 8 I).lay 26 24 N).lay 59 300 (fun _ => 0)
set_option maxHeartbeats 4000000 in
theorem jstep_any (c : Addr) (h : Bool) (P S I N : Nat → Int) (w : World) (hc : w.cell? c = some (.bool h)) (hf : w.frozen? c = false) :
    Calls Try.prog 22 #[.pointer (some c), .agg (arrv 300 P), .agg (arrv 24 S), .agg (arrv 8 I), .agg (arrv 24 N)] w fun e w' => e = .returned (.agg (arrv 300 (jsF P S I N))) ∧ Upd c (h || jsH P S I N) w w' := by
  have L0 := Lib.hid (js_start c h P S I N w hc hf)
  clear hc hf
  obtain ⟨us, hus⟩ : ∃ x, I 1 = x := ⟨_, rfl⟩
  have OC0 := fun (x : World) (k : x.cell? c = some (.bool h)) (f : x.frozen? c = false) => jof_any c h S I x k f
  obtain ⟨F, hF⟩ : ∃ x, jofF S I = x := ⟨_, rfl⟩
  obtain ⟨H1, hH1⟩ : ∃ x, (h || jofH S I) = x := ⟨_, rfl⟩
  rw [hF, hH1] at OC0
  have OC := Lib.hid OC0
  clear OC0
  have NC0 := fun (x : World) (k : x.cell? c = some (.bool H1)) (f : x.frozen? c = false) => noise_any c H1 N us x k f
  obtain ⟨Q, hQ⟩ : ∃ x, noF N us = x := ⟨_, rfl⟩
  obtain ⟨H2, hH2⟩ : ∃ x, (H1 || noH N us) = x := ⟨_, rfl⟩
  rw [hQ, hH2] at NC0
  have NC := Lib.hid NC0
  clear NC0
  have SC0 := fun (x : World) (k : x.cell? c = some (.bool H2)) (f : x.frozen? c = false) => step_any c H2 P F Q x k f
  obtain ⟨G, hG⟩ : ∃ x, stepF P F Q = x := ⟨_, rfl⟩
  obtain ⟨H3, hH3⟩ : ∃ x, (H2 || stepH P F Q) = x := ⟨_, rfl⟩
  rw [hG, hH3] at SC0
  have SC := Lib.hid SC0
  clear SC0
  have HZ := Lib.hid (show jsF P S I N = G ∧ (h || jsH P S I N) = H3 by
    unfold jsF jsH; rw [hus, hF, hQ, hG, ← hH3, ← hH2, ← hH1]; exact ⟨rfl, by simp only [Bool.or_assoc]⟩)
  have HUS := Lib.hid hus
  clear hF hQ hG hH1 hH2 hH3 hus
  go_enter Try.func22, Try.ntmps22
  go_upto_region 1 with fail
  generalize ((((w.alloc (.cells (arrv 300 P) 59)).alloc (.cells (arrv 24 S) 30)).alloc (.cells (arrv 8 I) 33)).alloc (.cells (arrv 24 N) 26)).alloc (.cells Try.zeroCells59 59) = W0 at *
  have M := Lib.hid L0.out.drew
  clear L0
  refine wp_region_M (fun w' => Blk w' w.heap.size 59 300 P ∧ Blk w' (w.heap.size + 1) 30 24 S ∧ Blk w' (w.heap.size + 1 + 1) 33 8 I ∧ Blk w' (w.heap.size + 1 + 1 + 1) 26 24 N ∧ w'.cell? ⟨w.heap.size + 1 + 1, 1, none⟩ = some (.int .i64 us)) 11 (by kernel_rfl) ?_ (fun hHeld => ?_)
  · exact ⟨M.out.e4, M.out.e3, M.out.e2, M.out.e1, by rw [← HUS.out]; exact M.out.e2.cell (by decide)⟩
  refine wpAnyM_take 0 (v := ?_) rfl (by kernel_rfl) (fun _ _ _ h => h) (Or.inl ⟨by rfl, ?_⟩) (by assumption) ?_
  rotate_left
  · (intro wx hSw; (try dsimp only at hSw); go_simp; (try with_reducible rfl))
  (try simp only [Act.put, nA, nB, nC])
  refine wpAnyM_take 1 (v := ?_) rfl (by kernel_rfl) (fun _ _ _ h => h) (Or.inl ⟨by rfl, ?_⟩) (by assumption) ?_
  rotate_left
  · (intro wx hSw; refine Eq.trans (run_load_row 59 (.tmp 6) (by rfl) (w.heap.size) (by rfl) _ _ _ _ (hSw.1) Try.underlying59 rfl (icov.trans (by rw [arrv_size]))) ?_; with_reducible rfl)
  (try simp only [Act.put, nA, nB, nC])
  refine wpAnyM_takeX [5, 10, 11, 12] 2 (v := ?_) rfl (by kernel_rfl) (fun _ _ _ h => h) (Or.inl ⟨by rfl, ?_⟩) (by assumption) ?_
  rotate_left
  · (intro wx hSw; (try dsimp only at hSw); go_simp; (try with_reducible rfl))
  (try simp only [Act.put, nA, nB, nC])
  refine wpAnyM_takeX [5, 10, 11, 12] 3 (v := ?_) rfl (by kernel_rfl) (fun _ _ _ h => h) (Or.inl ⟨by rfl, ?_⟩) (by assumption) ?_
  rotate_left
  · (intro wx hSw; refine Eq.trans (run_load_row 30 (.tmp 7) (by rfl) (w.heap.size + 1) (by rfl) _ _ _ _ (hSw.2.1) Try.underlying30 rfl (ist.trans (by rw [arrv_size]))) ?_; with_reducible rfl)
  (try simp only [Act.put, nA, nB, nC])
  refine wpAnyM_takeX [5, 10, 11, 12] 4 (v := ?_) rfl (by kernel_rfl) (fun _ _ _ h => h) (Or.inl ⟨by rfl, ?_⟩) (by assumption) ?_
  rotate_left
  · (intro wx hSw; refine Eq.trans (run_load_row 33 (.tmp 8) (by rfl) (w.heap.size + 1 + 1) (by rfl) _ _ _ _ (hSw.2.2.1) Try.underlying33 rfl (iimu.trans (by rw [arrv_size]))) ?_; with_reducible rfl)
  (try simp only [Act.put, nA, nB, nC])
  refine wpAnyM_takeX [10, 11, 12] 6 (v := ?_) rfl (by kernel_rfl) (fun _ _ _ h => h) (Or.inl ⟨by rfl, ?_⟩) (by assumption) ?_
  rotate_left
  · (intro wx hSw; (try dsimp only at hSw); go_simp; (try with_reducible rfl))
  (try simp only [Act.put, nA, nB, nC])
  refine wpAnyM_takeX [10, 11, 12] 7 (v := ?_) rfl (by kernel_rfl) (fun _ _ _ h => h) (Or.inl ⟨by rfl, ?_⟩) (by assumption) ?_
  rotate_left
  · (intro wx hSw; refine Eq.trans (run_load_row 26 (.tmp 9) (by rfl) (w.heap.size + 1 + 1 + 1) (by rfl) _ _ _ _ (hSw.2.2.2.1) Try.underlying26 rfl (icol.trans (by rw [arrv_size]))) ?_; with_reducible rfl)
  (try simp only [Act.put, nA, nB, nC])
  refine wpAnyM_takeX [9, 10, 11, 12] 8 (v := ?_) rfl (by kernel_rfl) (fun _ _ _ h => h) (Or.inl ⟨by rfl, ?_⟩) (by assumption) ?_
  rotate_left
  · (intro wx hSw; (try dsimp only at hSw); go_simp; (try with_reducible rfl))
  (try simp only [Act.put, nA, nB, nC])
  refine wpAnyM_takeX [10, 11, 12] 9 (v := ?_) rfl (by kernel_rfl) (fun _ _ _ h => h) (Or.inl ⟨by rfl, ?_⟩) (by assumption) ?_
  rotate_left
  · (intro wx hSw; have h0 := hSw.2.2.2.2; go_simp; (try with_reducible rfl))
  (try simp only [Act.put, nA, nB, nC])
  refine wpAnyM_oneS 5 rfl (by kernel_rfl) (fun K hK => ?_)
  go_simp
  (refine (OC.out _ M.out.cell M.out.free).mono ?_); rintro e w1 ⟨rfl, hu⟩; have M1 := Lib.hid (M.out.upd' hu); clear hu M; have M := M1; clear M1
  (try dsimp only)
  (try simp only [Act.put, nA, nB, nC])
  clear hHeld
  refine hK.out _ _ ?_ (fun hHeld => ?_)
  · exact ⟨M.out.e4, M.out.e3, M.out.e2, M.out.e1, by rw [← HUS.out]; exact M.out.e2.cell (by decide)⟩
  clear hK K
  (try simp only [Act.put, nA, nB, nC])
  refine wpAnyM_oneS 10 rfl (by kernel_rfl) (fun K hK => ?_)
  go_simp
  (refine (NC.out _ M.out.cell M.out.free).mono ?_); rintro e w2 ⟨rfl, hu⟩; have M1 := Lib.hid (M.out.upd' hu); clear hu M; have M := M1; clear M1
  (try dsimp only)
  (try simp only [Act.put, nA, nB, nC])
  clear hHeld
  refine hK.out _ _ ?_ (fun hHeld => ?_)
  · exact ⟨M.out.e4, M.out.e3, M.out.e2, M.out.e1, by rw [← HUS.out]; exact M.out.e2.cell (by decide)⟩
  clear hK K
  (try simp only [Act.put, nA, nB, nC])
  refine wpAnyM_one 11 rfl (by kernel_rfl) (fun K hK => ?_)
  go_simp
  (refine (SC.out _ M.out.cell M.out.free).mono ?_); rintro e w3 ⟨rfl, hu⟩; have M1 := Lib.hid (M.out.upd' hu); clear hu M; have M := M1; clear M1
  (try dsimp only)
  (try simp only [Act.put, nA, nB, nC])
  refine hK.out _ _ (.inl (by kernel_rfl)) (fun _ => ?_)
  clear hK K
  (try simp only [Act.put, nA, nB, nC])
  refine wpAnyM_doneL 12 rfl (by kernel_rfl) (by rfl) (by kernel_rfl) (run_store_row 59 (.tmp 10) (.tmp 22) rfl _ rfl rfl M.out.e0 icov) ?_
  (try simp only [Act.put, nA, nB, nC])
  refine wpAnyM_done (by kernel_rfl) ?_ _
  have r1 := M.out.e0.setRow G
  have U1 := M.out.upd.then' (below_row (Below.refl _ _) (show w.heap.size ≤ w.heap.size + 1 + 1 + 1 + 1 by omega) (arrv 300 G))
  generalize w3.setRow (w.heap.size + 1 + 1 + 1 + 1) (arrv 300 G) = W9 at *
  go_wp2_with fail
  refine bodyPost_ret (results_cell_row Try.results22 _ _ (w.heap.size + 1 + 1 + 1 + 1) 59 (arrv 300 G) (0, 0) _ rfl r1 Try.underlying59 rfl (icov.trans (by rw [arrv_size]))) rfl ⟨by rw [HZ.out.1], by rw [HZ.out.2]; exact U1⟩
end Go.Proofs.Ytanmddenleffaaa
/- bierman's numbers: what an update reckons with, and what it makes. No program. -/
namespace Go.Proofs.Ytanmddenleffaaa
end Go.Proofs.Ytanmddenleffaaa
/- Contract of thornton.With: Step with One and the noises given. -/
namespace Go.Proofs.Ytanmddenleffaaa
open Go.RowKit
set_option maxRecDepth 100000
end Go.Proofs.Ytanmddenleffaaa
/- thornton.Step with One, of variances alone: the noises are added, and nothing else. No program. -/
namespace Go.Proofs.Ytanmddenleffaaa
theorem orB_no {p : Nat → Bool} : ∀ {n : Nat}, (∀ i, i < n → p i = false) → orB p n = false
  | 0, _ => rfl
  | n + 1, h => by simp only [orB]; rw [orB_no fun i hi => h i (by omega), h n (by omega)]; rfl
theorem satV_0 : satV 0 = 0 := by decide
theorem dotS_no {A B : Nat → Int} : ∀ {n : Nat}, (∀ i, i < n → A i = 0 ∨ B i = 0) → dotS A B n = 0
  | 0, _ => rfl
  | n + 1, h => by
    simp only [dotS]
    rw [dotS_no fun i hi => h i (by omega)]
    rcases h n (by omega) with e | e <;> rw [e, satV_0] <;> simp
/-- The rows that are orthogonal from the start. -/
def idW (x : Nat) : Int := if x % 48 = x / 48 ∨ x % 48 = 24 + x / 48 then 1073741824 else 0
section
variable {W e : Nat → Int} (hW : ∀ x, x < 1152 → W x = idW x) (he : ∀ k, k < 48 → 0 ≤ e k ∧ e k ≤ 72057594037927936)
include hW he
variable (hs : ∀ j, j < 24 → 1 ≤ e j + e (24 + j) ∧ e j + e (24 + j) ≤ 72057594037927936)
include hs
end
/-- A covariance of variances alone. -/
def DiagF (f : Nat → Int) : Prop := (∀ x, x < 276 → f x = 0) ∧ ∀ i, i < 24 → 1 ≤ f (276 + i) ∧ f (276 + i) ≤ 72057594037927936
theorem varV_id {a : Int} (h : 1 ≤ a) (h' : a ≤ 72057594037927936) : varV a = a ∧ varH a = false := by
  constructor
  · unfold varV clampV; rw [if_neg (by omega), if_neg (by omega), if_neg (by omega)]
  · unfold varH clampH; simp; omega
theorem oneF_at {i m : Nat} (hm : m < 24) : oneF (i * 24 + m) = if i = m then 1073741824 else 0 := by
  unfold oneF
  rw [show (i * 24 + m) / 24 = i by omega, show (i * 24 + m) % 24 = m by omega]
end Go.Proofs.Ytanmddenleffaaa
/- bierman's plain laws: a row of noughts, turned signs, what is learnt is good. No program. -/
namespace Go.Proofs.Ytanmddenleffaaa
theorem varV_bd (a : Int) : 1 ≤ varV a ∧ varV a ≤ 72057594037927936 := by
  unfold varV clampV; repeat' split
  all_goals omega
section
variable {p : Nat → Int} (hU : ∀ x, x < 276 → -1152921504606846976 ≤ p x ∧ p x ≤ 1152921504606846976) (hD : ∀ i, i < 24 → 1 ≤ p (276 + i) ∧ p (276 + i) ≤ 72057594037927936) {r : Int} (hr : 1 ≤ r ∧ r ≤ 72057594037927936)
end
section
variable (p h : Nat → Int) (r : Int)
end
section
variable {p h : Nat → Int} {r : Int} (hD : ∀ i, i < 24 → 1 ≤ p (276 + i) ∧ p (276 + i) ≤ 72057594037927936) (hr : 1 ≤ r ∧ r ≤ 72057594037927936)
include hD
include hr
end
end Go.Proofs.Ytanmddenleffaaa
/- bierman's plain laws (2): one state by itself, and the flags of a row of noughts. No program. -/
namespace Go.Proofs.Ytanmddenleffaaa
section
variable {p : Nat → Int} (hp : DiagF p) {k : Nat} (hk : k < 24) {r : Int} (hr : 1 ≤ r ∧ r ≤ 72057594037927936) (hd : p (276 + k) ≤ 72057594037927936)
theorem byV_bd (x d : Int) : -1152921504606846976 ≤ byV x d ∧ byV x d ≤ 1152921504606846976 := by
  unfold byV; split
  · split
    · omega
    · split <;> omega
  · exact satV_bd _
theorem divV_bd (a b s : Int) : -1152921504606846976 ≤ divV a b s ∧ divV a b s ≤ 1152921504606846976 := by
  unfold divV; split
  · omega
  · exact byV_bd _ _
end
end Go.Proofs.Ytanmddenleffaaa
/- thornton.Step's answer is good. No program. -/
namespace Go.Proofs.Ytanmddenleffaaa
theorem outI_good (O W e : Nat → Int) {j : Nat} (hj : j < 24) : ∀ m, m ≤ j →
    (∀ x, x < 276 → (-1152921504606846976 ≤ O x ∧ O x ≤ 1152921504606846976) → -1152921504606846976 ≤ outI O W e j m x ∧ outI O W e j m x ≤ 1152921504606846976) ∧
    (∀ i, i ≠ j → outI O W e j m (276 + i) = O (276 + i)) ∧ outI O W e j m (276 + j) = stD W e j
  | 0, _ => by
    refine ⟨fun x hx h => ?_, fun i hi => ?_, ?_⟩
    · simp only [outI, upd]; rw [if_neg (by omega)]; exact h
    · simp only [outI, upd]; rw [if_neg (by omega)]
    · simp only [outI, upd, if_true]
  | m + 1, hm => by
    obtain ⟨h1, h2, h3⟩ := outI_good O W e hj m (by omega)
    have hp := pl_lt (i := m) (j := j) (by omega) hj
    refine ⟨fun x hx h => ?_, fun i hi => ?_, ?_⟩
    · simp only [outI, upd]
      split
      · unfold stU; exact divV_bd _ _ _
      · exact h1 x hx h
    · simp only [outI, upd]; rw [if_neg (by omega)]; exact h2 i hi
    · simp only [outI, upd]; rw [if_neg (by omega)]; exact h3
theorem ON_good (W e : Nat → Int) : ∀ n, n ≤ 24 → (∀ x, x < 276 → -1152921504606846976 ≤ ON W e n x ∧ ON W e n x ≤ 1152921504606846976) ∧
    ∀ i, i < 24 → 24 - n ≤ i → 1 ≤ ON W e n (276 + i) ∧ ON W e n (276 + i) ≤ 72057594037927936
  | 0, _ => ⟨fun x _ => by simp only [ON]; omega, fun i h1 h2 => by omega⟩
  | n + 1, hn => by
    obtain ⟨h1, h2⟩ := ON_good W e n (by omega)
    obtain ⟨g1, g2, g3⟩ := outI_good (ON W e n) (WN W e n) e (j := 23 - n) (by omega) (23 - n) (Nat.le_refl _)
    refine ⟨fun x hx => by simp only [ON]; exact g1 x hx (h1 x hx), fun i hi hi2 => ?_⟩
    simp only [ON]
    by_cases e1 : i = 23 - n
    · subst e1
      rw [g3]
      unfold stD
      exact varV_bd _
    · rw [g2 i e1]; exact h2 i hi (by omega)
theorem good_of {f : Nat → Int} (h1 : ∀ x, x < 276 → -1152921504606846976 ≤ f x ∧ f x ≤ 1152921504606846976) (h2 : ∀ i, i < 24 → 1 ≤ f (276 + i) ∧ f (276 + i) ≤ 72057594037927936) : condH f = false := by
  unfold condH
  rw [orB_no, orB_no]; rfl
  · intro i hi; exact satH_no (h1 i hi).1 (h1 i hi).2
  · intro i hi; exact (varV_id (h2 i hi).1 (h2 i hi).2).2
theorem step_good (f F q : Nat → Int) : condH (stepF f F q) = false := by
  obtain ⟨h1, h2⟩ := ON_good (stepW f F) (stepE f q) 24 (Nat.le_refl _)
  exact good_of h1 fun i hi => h2 i hi (by omega)
end Go.Proofs.Ytanmddenleffaaa
/- Contract of law 17's awake. -/
namespace Go.Proofs.Ytanmddenleffaaa
open Go.RowKit
set_option maxRecDepth 100000
open Go in
theorem ja_bimu {o : Oper} {ev : Operand → Value} {w : World} (ho : o.op = .build 33 #[(1, .const (.int .i64 1000000))]) (hx : ev (.const (.int .i64 1000000)) = .int .i64 1000000) :
    (execOp ev o).run Try.prog w = .ok (.value (.agg (arrv 8 jaI))) w := by
  unfold execOp
  simp only [ho, List.map_toArray, List.map_cons, List.map_nil, hx]
  kernel_rfl
open Go in
theorem ja_bst {o : Oper} {ev : Operand → Value} {w : World} (ho : o.op = .build 30 #[(0, .const (.int .i64 1073741824))]) (hx : ev (.const (.int .i64 1073741824)) = .int .i64 1073741824) :
    (execOp ev o).run Try.prog w = .ok (.value (.agg (arrv 24 jaS))) w := by
  unfold execOp
  simp only [ho, List.map_toArray, List.map_cons, List.map_nil, hx]
  kernel_rfl
open Go in
theorem ja_bv {o : Oper} {ev : Operand → Value} {w : World} (ho : o.op = .build 41 #[(0, .const (.int .i64 1073741824))]) (hx : ev (.const (.int .i64 1073741824)) = .int .i64 1073741824) :
    (execOp ev o).run Try.prog w = .ok (.value (.agg (arrv 3 jaS))) w := by
  unfold execOp
  simp only [ho, List.map_toArray, List.map_cons, List.map_nil, hx]
  kernel_rfl
open Go in
theorem ja_bn {o : Oper} {ev : Operand → Value} {w : World} (ho : o.op = .build 26 #[(3, .const (.int .i64 8))]) (hx : ev (.const (.int .i64 8)) = .int .i64 8) :
    (execOp ev o).run Try.prog w = .ok (.value (.agg (arrv 24 jaN))) w := by
  unfold execOp
  simp only [ho, List.map_toArray, List.map_cons, List.map_nil, hx]
  kernel_rfl
open Go in
theorem ja_bn0 {o : Oper} {ev : Operand → Value} {w : World} (ho : o.op = .build 26 #[]) :
    (execOp ev o).run Try.prog w = .ok (.value (.agg (arrv 24 (fun _ => 0)))) w := by
  unfold execOp
  simp only [ho, List.map_toArray, List.map_nil]
  kernel_rfl
theorem ja_z8 : (#[.int .i64 0, .int .i64 0, .int .i64 0, .int .i64 0, .int .i64 0, .int .i64 0, .int .i64 0, .int .i64 0] : Array Value) = arrv 8 (fun _ => 0) := by kernel_rfl
theorem ja_slc {c : Addr} {h : Bool} {E : List Lx} {top : Nat} {w wr : World} (_s : LsR c h E top w wr) (d : Nat) (e : wr.heap.size = d) : Slc (wr.alloc (.cells #[.int .i64 17592186044416] 2)) (some ⟨d, 0, none⟩) 1 jaL := by
  subst e
  intro i hi
  obtain rfl : i = 0 := by omega
  exact ⟨_, _, rfl, by simp [go_sem, jaL]⟩
theorem ja_cov {c : Addr} {h : Bool} {E : List Lx} {top : Nat} {w wr : World} (s : LsR c h E top w wr) (d : Nat) (e : wr.heap.size = d) : Blk (wr.alloc (.cells Try.zeroCells59 59)) d 59 300 (fun _ => 0) ∧ top ≤ d := by
  subst e; rw [zcov]; exact ⟨Blk.new _ _ _ _, s.le⟩
set_option maxHeartbeats 16000000 in
theorem awake17_any (w : World) : Calls Try.prog 8 #[] w fun e w' => e = .returned (.bool true) ∧ Below w.heap.size w w' := by
  have F0 := Flg.new w false
  have B0 := Lib.hid (show Below w.heap.size w (w.alloc (.cells #[.bool false] 25)) by (repeat (first | with_reducible exact Below.refl _ _ | with_reducible apply Below.drew | (with_reducible refine below_drewN ?_ _) | (with_reducible refine Below.alloc ?_ (by (try simp) <;> omega) _) | (with_reducible refine Below.setCell ?_ (by (try simp) <;> omega) _))))
  have M0 := Lib.hid (ls_nil F0.cell F0.free)
  clear F0
  have OC0 := fun (x : World) (k : x.cell? ⟨w.heap.size, 0, none⟩ = some (.bool false)) (f : x.frozen? ⟨w.heap.size, 0, none⟩ = false) => jof_any ⟨w.heap.size, 0, none⟩ false jaS jaI x k f
  rw [ja_of.2.2.2.2.2, Bool.false_or] at OC0
  obtain ⟨F, hF⟩ : ∃ x, jofF jaS jaI = x := ⟨_, rfl⟩
  rw [hF] at OC0
  have OC := Lib.hid OC0
  have TC0 := fun (x : World) (k : x.cell? ⟨w.heap.size, 0, none⟩ = some (.bool false)) (f : x.frozen? ⟨w.heap.size, 0, none⟩ = false) => jturned_any ⟨w.heap.size, 0, none⟩ false jaS jaS x k f
  rw [ja_tu.2.2, Bool.false_or] at TC0
  obtain ⟨T, hT⟩ : ∃ x, tuF jaS jaS = x := ⟨_, rfl⟩
  rw [hT] at TC0
  have TC := Lib.hid TC0
  have NC0 := fun (x : World) (k : x.cell? ⟨w.heap.size, 0, none⟩ = some (.bool false)) (f : x.frozen? ⟨w.heap.size, 0, none⟩ = false) => noise_any ⟨w.heap.size, 0, none⟩ false jaN 500000 x k f
  rw [ja_no.2.1, Bool.false_or] at NC0
  obtain ⟨Q, hQ⟩ : ∃ x, noF jaN 500000 = x := ⟨_, rfl⟩
  rw [hQ] at NC0
  have NC := Lib.hid NC0
  have PC0 := fun (x : World) (s : Option Addr) (k : x.cell? ⟨w.heap.size, 0, none⟩ = some (.bool false)) (f : x.frozen? ⟨w.heap.size, 0, none⟩ = false) (l : Slc x s 1 jaL) => new_any ⟨w.heap.size, 0, none⟩ false s 1 1 jaL x k f l
  rw [ja_new, Bool.false_or] at PC0
  have SC0 := fun (x : World) (k : x.cell? ⟨w.heap.size, 0, none⟩ = some (.bool false)) (f : x.frozen? ⟨w.heap.size, 0, none⟩ = false) => jstep_any ⟨w.heap.size, 0, none⟩ false (newF 1 jaL) jaS jaI (fun _ => 0) x k f
  have SF : jsH (newF 1 jaL) jaS jaI (fun _ => 0) = false := by
    unfold jsH
    rw [ja_of.2.2.2.2.2, show jaI 1 = 1000000 from rfl, ja_no.2.2, ja_step]; rfl
  rw [SF, Bool.false_or] at SC0
  have SG : condH (jsF (newF 1 jaL) jaS jaI (fun _ => 0)) = false := step_good _ _ _
  obtain ⟨P, hP⟩ : ∃ x, newF 1 jaL = x := ⟨_, rfl⟩
  rw [hP] at PC0 SC0 SG
  obtain ⟨R, hR⟩ : ∃ x, jsF P jaS jaI (fun _ => 0) = x := ⟨_, rfl⟩
  rw [hR] at SC0 SG
  have PC := Lib.hid PC0
  have SC := Lib.hid SC0
  have GC := Lib.hid (fun (x : World) => good_any R x)
  rw [SG] at GC
  have HN := Lib.hid (show F (7 * 24 + 4) = 1073741824 ∧ F (4 * 24 + 13) = -1073741824 ∧ F 0 = 1073741824 ∧ F (1 * 24 + 10) = -536870912 ∧ F (20 * 24 + 20) = 1073741824 ∧ T 0 = 2147483648 ∧ T (1 * 4 + 3) = 2147483648 ∧ Q 3 = 4 by
    rw [← hF, ← hT, ← hQ]; exact ⟨ja_of.1, ja_of.2.1, ja_of.2.2.1, ja_of.2.2.2.1, ja_of.2.2.2.2.1, ja_tu.1, ja_tu.2.1, ja_no.1⟩)
  clear OC0 TC0 NC0 PC0 SC0 SF SG hF hT hQ hP hR
  go_enter Try.func8, Try.ntmps8
  go_upto_region 2 with fail
  generalize w.alloc (.cells #[.bool false] 25) = W0 at *
  refine wp_region_lit ?_
  refine wpList_val (v := ?_) rfl ?_ ?_
  rotate_left
  · (refine Eq.trans (ja_bimu (by rfl) (by rfl)) ?_; with_reducible rfl)
  (try simp only [Act.put, nA, nB, nC])
  refine wpList_act (v := ?_) (w' := ?_) rfl ?_ ?_
  rotate_left 2
  · (go_simp; (try (first | with_reducible rfl | (constructor <;> with_reducible rfl))))
  (try simp only [Act.put, nA, nB, nC])
  refine wpList_done (w' := ?_) rfl ?_ ?_
  rotate_left
  · (refine Eq.trans (run_store_row 33 (.tmp 2) (.tmp 9) (by rfl) (W0.heap.size) (by rfl) (by rfl) (show Blk (W0.alloc (.cells #[.int .i64 0, .int .i64 0, .int .i64 0, .int .i64 0, .int .i64 0, .int .i64 0, .int .i64 0, .int .i64 0] 33)) W0.heap.size 33 8 (fun _ => 0) by rw [ja_z8]; exact Blk.new _ _ _ _) (iimu.trans rfl)) ?_; with_reducible rfl)
  (try simp only [Act.put, nA, nB, nC])
  refine wpList_nil ?_
  have M1 := M0.out.put 33 8 (fun _ => 0) jaI
  rw [← ja_z8] at M1
  have M1 := Lib.hid M1
  obtain ⟨ib, hib⟩ : ∃ x, W0.heap.size = x := ⟨_, rfl⟩
  rw [hib] at M1 ⊢
  generalize (W0.alloc (.cells #[.int .i64 0, .int .i64 0, .int .i64 0, .int .i64 0, .int .i64 0, .int .i64 0, .int .i64 0, .int .i64 0] 33)).setRow ib (arrv 8 jaI) = W1 at *
  have I1 := M1.out.e0
  clear M0
  go_upto_region 3 with fail
  refine wp_region_lit ?_
  refine wpList_val (v := ?_) rfl ?_ ?_
  rotate_left
  · (go_simp; (try (first | with_reducible rfl | (constructor <;> with_reducible rfl))))
  (try simp only [Act.put, nA, nB, nC])
  refine wpList_val (v := ?_) rfl ?_ ?_
  rotate_left
  · (refine Eq.trans (ja_bst (by rfl) (by rfl)) ?_; with_reducible rfl)
  (try simp only [Act.put, nA, nB, nC])
  refine wpList_val (v := ?_) rfl ?_ ?_
  rotate_left
  · (refine Eq.trans (run_load_row 33 (.tmp 2) (by rfl) ib (by rfl) _ _ _ _ I1 Try.underlying33 rfl (iimu.trans (by rw [arrv_size]))) ?_; with_reducible rfl)
  (try simp only [Act.put, nA, nB, nC])
  refine wpList_step (fun K hK => ?_)
  go_simp
  (refine (OC.out _ M1.out.cell M1.out.free).mono ?_); rintro e w2 ⟨rfl, hu⟩; have M2 := Lib.hid (M1.out.upd' hu); clear hu M1 I1 OC
  (try dsimp only)
  (try simp only [Act.put, nA, nB, nC])
  refine hK _ _ ?_
  clear hK K
  refine wpList_act (v := ?_) (w' := ?_) rfl ?_ ?_
  rotate_left 2
  · (go_simp; (try (first | with_reducible rfl | (constructor <;> with_reducible rfl))))
  (try simp only [Act.put, nA, nB, nC])
  refine wpList_done (w' := ?_) rfl ?_ ?_
  rotate_left
  · (refine Eq.trans (run_store_row 28 (.tmp 3) (.tmp 13) (by rfl) (w2.heap.size) (by rfl) (by rfl) (show Blk (w2.alloc (.cells Try.zeroCells28 28)) w2.heap.size 28 576 (fun _ => 0) by rw [zmat]; exact Blk.new _ _ _ _) (imat.trans rfl)) ?_; with_reducible rfl)
  (try simp only [Act.put, nA, nB, nC])
  refine wpList_nil ?_
  have M3 := M2.out.put 28 576 (fun _ => 0) F
  rw [← zmat] at M3
  have M3 := Lib.hid M3
  obtain ⟨fb, hfb⟩ : ∃ x, w2.heap.size = x := ⟨_, rfl⟩
  rw [hfb] at M3 ⊢
  generalize (w2.alloc (.cells Try.zeroCells28 28)).setRow fb (arrv 576 F) = W3 at *
  clear M2
  go_upto_region 4 with fail
  refine wp_region_lit ?_
  refine wpList_val (v := ?_) rfl ?_ ?_
  rotate_left
  · (go_simp; (try (first | with_reducible rfl | (constructor <;> with_reducible rfl))))
  (try simp only [Act.put, nA, nB, nC])
  refine wpList_step (fun K hK => ?_)
  go_simp
  (refine (qone_any _).mono ?_); rintro e w4 ⟨rfl, hb⟩; have M4 := Lib.hid (M3.out.down hb); clear hb M3
  (try dsimp only)
  (try simp only [Act.put, nA, nB, nC])
  refine hK _ _ ?_
  clear hK K
  refine wpList_val (v := ?_) rfl ?_ ?_
  rotate_left
  · (refine Eq.trans (ja_bv (by rfl) (by rfl)) ?_; with_reducible rfl)
  (try simp only [Act.put, nA, nB, nC])
  refine wpList_step (fun K hK => ?_)
  go_simp
  (rw [show arrv 4 oneQ = arrv 4 jaS from arrv_congr (by decide)]); (refine (TC.out _ M4.out.cell M4.out.free).mono ?_); rintro e w5 ⟨rfl, hu⟩; have M5 := Lib.hid (M4.out.upd' hu); clear hu M4 TC
  (try dsimp only)
  (try simp only [Act.put, nA, nB, nC])
  refine hK _ _ ?_
  clear hK K
  refine wpList_act (v := ?_) (w' := ?_) rfl ?_ ?_
  rotate_left 2
  · (go_simp; (try (first | with_reducible rfl | (constructor <;> with_reducible rfl))))
  (try simp only [Act.put, nA, nB, nC])
  refine wpList_done (w' := ?_) rfl ?_ ?_
  rotate_left
  · (refine Eq.trans (run_store_row 47 (.tmp 4) (.tmp 17) (by rfl) (w5.heap.size) (by rfl) (by rfl) (show Blk (w5.alloc (.cells #[.int .i64 0, .int .i64 0, .int .i64 0, .int .i64 0, .int .i64 0, .int .i64 0, .int .i64 0, .int .i64 0, .int .i64 0, .int .i64 0, .int .i64 0, .int .i64 0] 47)) w5.heap.size 47 12 (fun _ => 0) by rw [zt34]; exact Blk.new _ _ _ _) (it34.trans rfl)) ?_; with_reducible rfl)
  (try simp only [Act.put, nA, nB, nC])
  refine wpList_nil ?_
  have M6 := M5.out.put 47 12 (fun _ => 0) T
  rw [← zt34] at M6
  have M6 := Lib.hid M6
  obtain ⟨tb, htb⟩ : ∃ x, w5.heap.size = x := ⟨_, rfl⟩
  rw [htb] at M6 ⊢
  generalize (w5.alloc (.cells #[.int .i64 0, .int .i64 0, .int .i64 0, .int .i64 0, .int .i64 0, .int .i64 0, .int .i64 0, .int .i64 0, .int .i64 0, .int .i64 0, .int .i64 0, .int .i64 0] 47)).setRow tb (arrv 12 T) = W6 at *
  clear M5
  go_upto_region 5 with fail
  refine wp_region_lit ?_
  refine wpList_val (v := ?_) rfl ?_ ?_
  rotate_left
  · (go_simp; (try (first | with_reducible rfl | (constructor <;> with_reducible rfl))))
  (try simp only [Act.put, nA, nB, nC])
  refine wpList_val (v := ?_) rfl ?_ ?_
  rotate_left
  · (refine Eq.trans (ja_bn (by rfl) (by rfl)) ?_; with_reducible rfl)
  (try simp only [Act.put, nA, nB, nC])
  refine wpList_step (fun K hK => ?_)
  go_simp
  (refine (NC.out _ M6.out.cell M6.out.free).mono ?_); rintro e w7 ⟨rfl, hu⟩; have M7 := Lib.hid (M6.out.upd' hu); clear hu M6 NC
  (try dsimp only)
  (try simp only [Act.put, nA, nB, nC])
  refine hK _ _ ?_
  clear hK K
  refine wpList_act (v := ?_) (w' := ?_) rfl ?_ ?_
  rotate_left 2
  · (go_simp; (try (first | with_reducible rfl | (constructor <;> with_reducible rfl))))
  (try simp only [Act.put, nA, nB, nC])
  refine wpList_done (w' := ?_) rfl ?_ ?_
  rotate_left
  · (refine Eq.trans (run_store_row 26 (.tmp 5) (.tmp 20) (by rfl) (w7.heap.size) (by rfl) (by rfl) (show Blk (w7.alloc (.cells #[.int .i64 0, .int .i64 0, .int .i64 0, .int .i64 0, .int .i64 0, .int .i64 0, .int .i64 0, .int .i64 0, .int .i64 0, .int .i64 0, .int .i64 0, .int .i64 0, .int .i64 0, .int .i64 0, .int .i64 0, .int .i64 0, .int .i64 0, .int .i64 0, .int .i64 0, .int .i64 0, .int .i64 0, .int .i64 0, .int .i64 0, .int .i64 0] 26)) w7.heap.size 26 24 (fun _ => 0) by rw [zcol]; exact Blk.new _ _ _ _) (icol.trans rfl)) ?_; with_reducible rfl)
  (try simp only [Act.put, nA, nB, nC])
  refine wpList_nil ?_
  have M8 := M7.out.put 26 24 (fun _ => 0) Q
  rw [← zcol] at M8
  have M8 := Lib.hid M8
  obtain ⟨nb, hnb⟩ : ∃ x, w7.heap.size = x := ⟨_, rfl⟩
  rw [hnb] at M8 ⊢
  generalize (w7.alloc (.cells #[.int .i64 0, .int .i64 0, .int .i64 0, .int .i64 0, .int .i64 0, .int .i64 0, .int .i64 0, .int .i64 0, .int .i64 0, .int .i64 0, .int .i64 0, .int .i64 0, .int .i64 0, .int .i64 0, .int .i64 0, .int .i64 0, .int .i64 0, .int .i64 0, .int .i64 0, .int .i64 0, .int .i64 0, .int .i64 0, .int .i64 0, .int .i64 0] 26)).setRow nb (arrv 24 Q) = W8 at *
  clear M7
  go_upto_region 6 with fail
  have HS := Lib.hid M8.out.drew
  clear M8
  (try simp only [Act.put])
  go_cut [6] from 21 to 28 (fun s6 wx => ∃ b, s6 = .pointer (some ⟨b, 0, none⟩) ∧ Hid (LsR ⟨w.heap.size, 0, none⟩ false [⟨b, 59, 300, R⟩, ⟨nb, 26, 24, Q⟩, ⟨tb, 47, 12, T⟩, ⟨fb, 28, 576, F⟩, ⟨ib, 33, 8, jaI⟩] (b + 1) W0 wx))
  case first =>
    refine wp_region_M (fun w' => Blk w' ib 33 8 jaI) 9 (by kernel_rfl) ?_ (fun hHeld => ?_)
    · exact HS.out.e3
    refine wpAnyM_take 0 (v := ?_) rfl (by kernel_rfl) (fun _ _ _ h => h) (Or.inl ⟨by rfl, ?_⟩) (by assumption) ?_
    rotate_left
    · (intro wx hSw; (try dsimp only at hSw); go_simp; (try with_reducible rfl))
    (try simp only [Act.put, nA, nB, nC])
    refine wpAnyM_take 1 (v := ?_) rfl (by kernel_rfl) (fun _ _ _ h => h) (Or.inl ⟨by rfl, ?_⟩) (by assumption) ?_
    rotate_left
    · (intro wx hSw; (try dsimp only at hSw); go_simp; (try with_reducible rfl))
    (try simp only [Act.put, nA, nB, nC])
    refine wpAnyM_take 4 (v := ?_) rfl (by kernel_rfl) (fun _ _ _ h => h) (Or.inl ⟨by rfl, ?_⟩) (by assumption) ?_
    rotate_left
    · (intro wx hSw; refine Eq.trans (ja_bst (by rfl) (by rfl)) ?_; with_reducible rfl)
    (try simp only [Act.put, nA, nB, nC])
    refine wpAnyM_take 5 (v := ?_) rfl (by kernel_rfl) (fun _ _ _ h => h) (Or.inl ⟨by rfl, ?_⟩) (by assumption) ?_
    rotate_left
    · (intro wx hSw; refine Eq.trans (run_load_row 33 (.tmp 2) (by rfl) ib (by rfl) _ _ _ _ hSw Try.underlying33 rfl (iimu.trans (by rw [arrv_size]))) ?_; with_reducible rfl)
    (try simp only [Act.put, nA, nB, nC])
    refine wpAnyM_take 6 (v := ?_) rfl (by kernel_rfl) (fun _ _ _ h => h) (Or.inl ⟨by rfl, ?_⟩) (by assumption) ?_
    rotate_left
    · (intro wx hSw; refine Eq.trans (ja_bn0 (by rfl)) ?_; with_reducible rfl)
    (try simp only [Act.put, nA, nB, nC])
    refine wpAnyM_twoS 2 8 rfl rfl (by kernel_rfl) (fun K hK => ?_) (fun K hK => ?_)
    · go_simp; have HL := Lib.hid (ja_slc HS.out _ (by first | (simp; rfl) | rfl)); have HS2 := Lib.hid (HS.out.alloc (.cells #[.int .i64 17592186044416] 2)); clear HS; have HS := HS2; clear HS2; (try (have HA2 := Lib.hid (And.intro (HA.out.1.alloc (.cells #[.int .i64 17592186044416] 2)) HA.out.2); clear HA; have HA := HA2; clear HA2))
      clear hHeld
      refine hK.out _ _ ?_ (fun hHeld => ?_)
      · exact HS.out.e3
      clear hK K
      (try simp only [Act.put, nA, nB, nC])
      refine wpAnyM_twoS 3 8 rfl rfl (by kernel_rfl) (fun K hK => ?_) (fun K hK => ?_)
      · go_simp
        (refine (PC.out _ _ HS.out.cell HS.out.free HL.out).mono ?_); rintro e w9 ⟨rfl, hu⟩; have hcb := HS.out.cb; have hlm := HS.out.lim; have HS2 := Lib.hid (HS.out.upd' hu); clear HS HL; have HS := HS2; clear HS2; (try (have HA2 := Lib.hid (And.intro (HA.out.1.upd hu (by have := HA.out.2; omega)) HA.out.2); clear HA; have HA := HA2; clear HA2)); clear hu hcb hlm
        (try dsimp only)
        (try simp only [Act.put, nA, nB, nC])
        clear hHeld
        refine hK.out _ _ ?_ (fun hHeld => ?_)
        · exact HS.out.e3
        clear hK K
        (try simp only [Act.put, nA, nB, nC])
        refine wpAnyM_twoS 7 8 rfl rfl (by kernel_rfl) (fun K hK => ?_) (fun K hK => ?_)
        · go_simp
          (refine (SC.out _ HS.out.cell HS.out.free).mono ?_); rintro e w10 ⟨rfl, hu⟩; have hcb := HS.out.cb; have hlm := HS.out.lim; have HS2 := Lib.hid (HS.out.upd' hu); clear HS; have HS := HS2; clear HS2; (try (have HA2 := Lib.hid (And.intro (HA.out.1.upd hu (by have := HA.out.2; omega)) HA.out.2); clear HA; have HA := HA2; clear HA2)); clear hu hcb hlm
          (try dsimp only)
          (try simp only [Act.put, nA, nB, nC])
          clear hHeld
          refine hK.out _ _ ?_ (fun hHeld => ?_)
          · exact HS.out.e3
          clear hK K
          (try simp only [Act.put, nA, nB, nC])
          refine wpAnyM_oneS 8 rfl (by kernel_rfl) (fun K hK => ?_)
          go_simp; have HA := Lib.hid (ja_cov HS.out _ (by first | (simp; rfl) | rfl)); have HS2 := Lib.hid (HS.out.alloc (.cells Try.zeroCells59 59)); clear HS; have HS := HS2; clear HS2; (try (have HL2 := Lib.hid (HL.out.below (Below.alloc (Below.refl _ _) (Nat.le_refl _) (.cells Try.zeroCells59 59))); clear HL; have HL := HL2; clear HL2))
          clear hHeld
          refine hK.out _ _ ?_ (fun hHeld => ?_)
          · exact HS.out.e3
          clear hK K
          (try simp only [Act.put, nA, nB, nC])
          refine wpAnyM_doneL 9 rfl (by kernel_rfl) (by rfl) (by kernel_rfl) (run_store_row 59 (.tmp 6) (.tmp 28) rfl _ rfl rfl HA.out.1 icov) ?_
          (try simp only [Act.put, nA, nB, nC])
          refine wpAnyM_done (by kernel_rfl) ?_ _
          (go_wp2_with fail; go_meet; exact ⟨_, rfl, Lib.hid (HS.out.fill HA.out.1 HA.out.2 R)⟩)
        · go_simp; have HA := Lib.hid (ja_cov HS.out _ (by first | (simp; rfl) | rfl)); have HS2 := Lib.hid (HS.out.alloc (.cells Try.zeroCells59 59)); clear HS; have HS := HS2; clear HS2; (try (have HL2 := Lib.hid (HL.out.below (Below.alloc (Below.refl _ _) (Nat.le_refl _) (.cells Try.zeroCells59 59))); clear HL; have HL := HL2; clear HL2))
          clear hHeld
          refine hK.out _ _ ?_ (fun hHeld => ?_)
          · exact HS.out.e3
          clear hK K
          (try simp only [Act.put, nA, nB, nC])
          refine wpAnyM_oneS 7 rfl (by kernel_rfl) (fun K hK => ?_)
          go_simp
          (refine (SC.out _ HS.out.cell HS.out.free).mono ?_); rintro e w10 ⟨rfl, hu⟩; have hcb := HS.out.cb; have hlm := HS.out.lim; have HS2 := Lib.hid (HS.out.upd' hu); clear HS; have HS := HS2; clear HS2; (try (have HA2 := Lib.hid (And.intro (HA.out.1.upd hu (by have := HA.out.2; omega)) HA.out.2); clear HA; have HA := HA2; clear HA2)); clear hu hcb hlm
          (try dsimp only)
          (try simp only [Act.put, nA, nB, nC])
          clear hHeld
          refine hK.out _ _ ?_ (fun hHeld => ?_)
          · exact HS.out.e3
          clear hK K
          (try simp only [Act.put, nA, nB, nC])
          refine wpAnyM_doneL 9 rfl (by kernel_rfl) (by rfl) (by kernel_rfl) (run_store_row 59 (.tmp 6) (.tmp 28) rfl _ rfl rfl HA.out.1 icov) ?_
          (try simp only [Act.put, nA, nB, nC])
          refine wpAnyM_done (by kernel_rfl) ?_ _
          (go_wp2_with fail; go_meet; exact ⟨_, rfl, Lib.hid (HS.out.fill HA.out.1 HA.out.2 R)⟩)
      · go_simp; have HA := Lib.hid (ja_cov HS.out _ (by first | (simp; rfl) | rfl)); have HS2 := Lib.hid (HS.out.alloc (.cells Try.zeroCells59 59)); clear HS; have HS := HS2; clear HS2; (try (have HL2 := Lib.hid (HL.out.below (Below.alloc (Below.refl _ _) (Nat.le_refl _) (.cells Try.zeroCells59 59))); clear HL; have HL := HL2; clear HL2))
        clear hHeld
        refine hK.out _ _ ?_ (fun hHeld => ?_)
        · exact HS.out.e3
        clear hK K
        (try simp only [Act.put, nA, nB, nC])
        refine wpAnyM_oneS 3 rfl (by kernel_rfl) (fun K hK => ?_)
        go_simp
        (refine (PC.out _ _ HS.out.cell HS.out.free HL.out).mono ?_); rintro e w9 ⟨rfl, hu⟩; have hcb := HS.out.cb; have hlm := HS.out.lim; have HS2 := Lib.hid (HS.out.upd' hu); clear HS HL; have HS := HS2; clear HS2; (try (have HA2 := Lib.hid (And.intro (HA.out.1.upd hu (by have := HA.out.2; omega)) HA.out.2); clear HA; have HA := HA2; clear HA2)); clear hu hcb hlm
        (try dsimp only)
        (try simp only [Act.put, nA, nB, nC])
        clear hHeld
        refine hK.out _ _ ?_ (fun hHeld => ?_)
        · exact HS.out.e3
        clear hK K
        (try simp only [Act.put, nA, nB, nC])
        refine wpAnyM_oneS 7 rfl (by kernel_rfl) (fun K hK => ?_)
        go_simp
        (refine (SC.out _ HS.out.cell HS.out.free).mono ?_); rintro e w10 ⟨rfl, hu⟩; have hcb := HS.out.cb; have hlm := HS.out.lim; have HS2 := Lib.hid (HS.out.upd' hu); clear HS; have HS := HS2; clear HS2; (try (have HA2 := Lib.hid (And.intro (HA.out.1.upd hu (by have := HA.out.2; omega)) HA.out.2); clear HA; have HA := HA2; clear HA2)); clear hu hcb hlm
        (try dsimp only)
        (try simp only [Act.put, nA, nB, nC])
        clear hHeld
        refine hK.out _ _ ?_ (fun hHeld => ?_)
        · exact HS.out.e3
        clear hK K
        (try simp only [Act.put, nA, nB, nC])
        refine wpAnyM_doneL 9 rfl (by kernel_rfl) (by rfl) (by kernel_rfl) (run_store_row 59 (.tmp 6) (.tmp 28) rfl _ rfl rfl HA.out.1 icov) ?_
        (try simp only [Act.put, nA, nB, nC])
        refine wpAnyM_done (by kernel_rfl) ?_ _
        (go_wp2_with fail; go_meet; exact ⟨_, rfl, Lib.hid (HS.out.fill HA.out.1 HA.out.2 R)⟩)
    · go_simp; have HA := Lib.hid (ja_cov HS.out _ (by first | (simp; rfl) | rfl)); have HS2 := Lib.hid (HS.out.alloc (.cells Try.zeroCells59 59)); clear HS; have HS := HS2; clear HS2; (try (have HL2 := Lib.hid (HL.out.below (Below.alloc (Below.refl _ _) (Nat.le_refl _) (.cells Try.zeroCells59 59))); clear HL; have HL := HL2; clear HL2))
      clear hHeld
      refine hK.out _ _ ?_ (fun hHeld => ?_)
      · exact HS.out.e3
      clear hK K
      (try simp only [Act.put, nA, nB, nC])
      refine wpAnyM_oneS 2 rfl (by kernel_rfl) (fun K hK => ?_)
      go_simp; have HL := Lib.hid (ja_slc HS.out _ (by first | (simp; rfl) | rfl)); have HS2 := Lib.hid (HS.out.alloc (.cells #[.int .i64 17592186044416] 2)); clear HS; have HS := HS2; clear HS2; (try (have HA2 := Lib.hid (And.intro (HA.out.1.alloc (.cells #[.int .i64 17592186044416] 2)) HA.out.2); clear HA; have HA := HA2; clear HA2))
      clear hHeld
      refine hK.out _ _ ?_ (fun hHeld => ?_)
      · exact HS.out.e3
      clear hK K
      (try simp only [Act.put, nA, nB, nC])
      refine wpAnyM_oneS 3 rfl (by kernel_rfl) (fun K hK => ?_)
      go_simp
      (refine (PC.out _ _ HS.out.cell HS.out.free HL.out).mono ?_); rintro e w9 ⟨rfl, hu⟩; have hcb := HS.out.cb; have hlm := HS.out.lim; have HS2 := Lib.hid (HS.out.upd' hu); clear HS HL; have HS := HS2; clear HS2; (try (have HA2 := Lib.hid (And.intro (HA.out.1.upd hu (by have := HA.out.2; omega)) HA.out.2); clear HA; have HA := HA2; clear HA2)); clear hu hcb hlm
      (try dsimp only)
      (try simp only [Act.put, nA, nB, nC])
      clear hHeld
      refine hK.out _ _ ?_ (fun hHeld => ?_)
      · exact HS.out.e3
      clear hK K
      (try simp only [Act.put, nA, nB, nC])
      refine wpAnyM_oneS 7 rfl (by kernel_rfl) (fun K hK => ?_)
      go_simp
      (refine (SC.out _ HS.out.cell HS.out.free).mono ?_); rintro e w10 ⟨rfl, hu⟩; have hcb := HS.out.cb; have hlm := HS.out.lim; have HS2 := Lib.hid (HS.out.upd' hu); clear HS; have HS := HS2; clear HS2; (try (have HA2 := Lib.hid (And.intro (HA.out.1.upd hu (by have := HA.out.2; omega)) HA.out.2); clear HA; have HA := HA2; clear HA2)); clear hu hcb hlm
      (try dsimp only)
      (try simp only [Act.put, nA, nB, nC])
      clear hHeld
      refine hK.out _ _ ?_ (fun hHeld => ?_)
      · exact HS.out.e3
      clear hK K
      (try simp only [Act.put, nA, nB, nC])
      refine wpAnyM_doneL 9 rfl (by kernel_rfl) (by rfl) (by kernel_rfl) (run_store_row 59 (.tmp 6) (.tmp 28) rfl _ rfl rfl HA.out.1 icov) ?_
      (try simp only [Act.put, nA, nB, nC])
      refine wpAnyM_done (by kernel_rfl) ?_ _
      (go_wp2_with fail; go_meet; exact ⟨_, rfl, Lib.hid (HS.out.fill HA.out.1 HA.out.2 R)⟩)
  case rest =>
  obtain ⟨pb, rfl, HB⟩ := hcut
  clear HS
  have a1 := HB.out.e3.cell (i := 7 * 24 + 4) (by decide)
  have a2 := HB.out.e3.cell (i := 4 * 24 + 13) (by decide)
  have a3 := HB.out.e3.cell (i := 0) (by decide)
  have a4 := HB.out.e3.cell (i := 1 * 24 + 10) (by decide)
  have a5 := HB.out.e3.cell (i := 20 * 24 + 20) (by decide)
  have a6 := HB.out.e2.cell (i := 0) (by decide)
  have a7 := HB.out.e2.cell (i := 1 * 4 + 3) (by decide)
  have a8 := HB.out.e1.cell (i := 3) (by decide)
  rw [HN.out.1] at a1
  rw [HN.out.2.1] at a2
  rw [HN.out.2.2.1] at a3
  rw [HN.out.2.2.2.1] at a4
  rw [HN.out.2.2.2.2.1] at a5
  rw [HN.out.2.2.2.2.2.1] at a6
  rw [HN.out.2.2.2.2.2.2.1] at a7
  rw [HN.out.2.2.2.2.2.2.2] at a8
  have P9 := HB.out.e0
  go_upto_region 7 with fail
  refine wp_region_lit ?_
  refine wpList_val (v := ?_) rfl ?_ ?_
  rotate_left
  · (go_simp; (try (first | with_reducible rfl | (constructor <;> with_reducible rfl))))
  (try simp only [Act.put, nA, nB, nC])
  refine wpList_val (v := ?_) rfl ?_ ?_
  rotate_left
  · (go_simp; (try (first | with_reducible rfl | (constructor <;> with_reducible rfl))))
  (try simp only [Act.put, nA, nB, nC])
  refine wpList_val (v := ?_) rfl ?_ ?_
  rotate_left
  · (go_simp; (try (first | with_reducible rfl | (constructor <;> with_reducible rfl))))
  (try simp only [Act.put, nA, nB, nC])
  refine wpList_val (v := ?_) rfl ?_ ?_
  rotate_left
  · (go_simp; (try (first | with_reducible rfl | (constructor <;> with_reducible rfl))))
  (try simp only [Act.put, nA, nB, nC])
  refine wpList_val (v := ?_) rfl ?_ ?_
  rotate_left
  · (go_simp; (try (first | with_reducible rfl | (constructor <;> with_reducible rfl))))
  (try simp only [Act.put, nA, nB, nC])
  first | (refine wpList_val (v := ?_) (by rfl) ?_ ?_; rotate_left; focus ((go_simp; (try (first | with_reducible rfl | (constructor <;> with_reducible rfl)))))) | refine wpList_skip (by rfl) ?_
  (try simp only [Act.put, nA, nB, nC])
  first | (refine wpList_val (v := ?_) (by rfl) ?_ ?_; rotate_left; focus ((go_simp; (try (first | with_reducible rfl | (constructor <;> with_reducible rfl)))))) | refine wpList_skip (by rfl) ?_
  (try simp only [Act.put, nA, nB, nC])
  first | (refine wpList_val (v := ?_) (by rfl) ?_ ?_; rotate_left; focus ((go_simp; (try (first | with_reducible rfl | (constructor <;> with_reducible rfl)))))) | refine wpList_skip (by rfl) ?_
  (try simp only [Act.put, nA, nB, nC])
  first | (refine wpList_val (v := ?_) (by rfl) ?_ ?_; rotate_left; focus ((go_simp; (try (first | with_reducible rfl | (constructor <;> with_reducible rfl)))))) | refine wpList_skip (by rfl) ?_
  (try simp only [Act.put, nA, nB, nC])
  refine wpList_val (v := ?_) rfl ?_ ?_
  rotate_left
  · (go_simp; (try (first | with_reducible rfl | (constructor <;> with_reducible rfl))))
  (try simp only [Act.put, nA, nB, nC])
  refine wpList_val (v := ?_) rfl ?_ ?_
  rotate_left
  · (go_simp; (try (first | with_reducible rfl | (constructor <;> with_reducible rfl))))
  (try simp only [Act.put, nA, nB, nC])
  first | (refine wpList_val (v := ?_) (by rfl) ?_ ?_; rotate_left; focus ((go_simp; (try (first | with_reducible rfl | (constructor <;> with_reducible rfl)))))) | refine wpList_skip (by rfl) ?_
  (try simp only [Act.put, nA, nB, nC])
  first | (refine wpList_val (v := ?_) (by rfl) ?_ ?_; rotate_left; focus ((go_simp; (try (first | with_reducible rfl | (constructor <;> with_reducible rfl)))))) | refine wpList_skip (by rfl) ?_
  (try simp only [Act.put, nA, nB, nC])
  first | (refine wpList_val (v := ?_) (by rfl) ?_ ?_; rotate_left; focus ((go_simp; (try (first | with_reducible rfl | (constructor <;> with_reducible rfl)))))) | refine wpList_skip (by rfl) ?_
  (try simp only [Act.put, nA, nB, nC])
  first | (refine wpList_val (v := ?_) (by rfl) ?_ ?_; rotate_left; focus ((go_simp; (try (first | with_reducible rfl | (constructor <;> with_reducible rfl)))))) | refine wpList_skip (by rfl) ?_
  (try simp only [Act.put, nA, nB, nC])
  refine wpList_val (v := ?_) rfl ?_ ?_
  rotate_left
  · (go_simp; (try (first | with_reducible rfl | (constructor <;> with_reducible rfl))))
  (try simp only [Act.put, nA, nB, nC])
  refine wpList_val (v := ?_) rfl ?_ ?_
  rotate_left
  · (go_simp; (try (first | with_reducible rfl | (constructor <;> with_reducible rfl))))
  (try simp only [Act.put, nA, nB, nC])
  first | (refine wpList_val (v := ?_) (by rfl) ?_ ?_; rotate_left; focus ((go_simp; (try (first | with_reducible rfl | (constructor <;> with_reducible rfl)))))) | refine wpList_skip (by rfl) ?_
  (try simp only [Act.put, nA, nB, nC])
  first | (refine wpList_val (v := ?_) (by rfl) ?_ ?_; rotate_left; focus ((go_simp; (try (first | with_reducible rfl | (constructor <;> with_reducible rfl)))))) | refine wpList_skip (by rfl) ?_
  (try simp only [Act.put, nA, nB, nC])
  first | (refine wpList_val (v := ?_) (by rfl) ?_ ?_; rotate_left; focus ((go_simp; (try (first | with_reducible rfl | (constructor <;> with_reducible rfl)))))) | refine wpList_skip (by rfl) ?_
  (try simp only [Act.put, nA, nB, nC])
  first | (refine wpList_val (v := ?_) (by rfl) ?_ ?_; rotate_left; focus ((go_simp; (try (first | with_reducible rfl | (constructor <;> with_reducible rfl)))))) | refine wpList_skip (by rfl) ?_
  (try simp only [Act.put, nA, nB, nC])
  refine wpList_val (v := ?_) rfl ?_ ?_
  rotate_left
  · (go_simp; (try (first | with_reducible rfl | (constructor <;> with_reducible rfl))))
  (try simp only [Act.put, nA, nB, nC])
  refine wpList_val (v := ?_) rfl ?_ ?_
  rotate_left
  · (go_simp; (try (first | with_reducible rfl | (constructor <;> with_reducible rfl))))
  (try simp only [Act.put, nA, nB, nC])
  first | (refine wpList_val (v := ?_) (by rfl) ?_ ?_; rotate_left; focus ((go_simp; (try (first | with_reducible rfl | (constructor <;> with_reducible rfl)))))) | refine wpList_skip (by rfl) ?_
  (try simp only [Act.put, nA, nB, nC])
  first | (refine wpList_val (v := ?_) (by rfl) ?_ ?_; rotate_left; focus ((go_simp; (try (first | with_reducible rfl | (constructor <;> with_reducible rfl)))))) | refine wpList_skip (by rfl) ?_
  (try simp only [Act.put, nA, nB, nC])
  first | (refine wpList_val (v := ?_) (by rfl) ?_ ?_; rotate_left; focus ((go_simp; (try (first | with_reducible rfl | (constructor <;> with_reducible rfl)))))) | refine wpList_skip (by rfl) ?_
  (try simp only [Act.put, nA, nB, nC])
  first | (refine wpList_val (v := ?_) (by rfl) ?_ ?_; rotate_left; focus ((go_simp; (try (first | with_reducible rfl | (constructor <;> with_reducible rfl)))))) | refine wpList_skip (by rfl) ?_
  (try simp only [Act.put, nA, nB, nC])
  refine wpList_val (v := ?_) rfl ?_ ?_
  rotate_left
  · (go_simp; (try (first | with_reducible rfl | (constructor <;> with_reducible rfl))))
  (try simp only [Act.put, nA, nB, nC])
  refine wpList_val (v := ?_) rfl ?_ ?_
  rotate_left
  · (go_simp; (try (first | with_reducible rfl | (constructor <;> with_reducible rfl))))
  (try simp only [Act.put, nA, nB, nC])
  first | (refine wpList_val (v := ?_) (by rfl) ?_ ?_; rotate_left; focus ((go_simp; (try (first | with_reducible rfl | (constructor <;> with_reducible rfl)))))) | refine wpList_skip (by rfl) ?_
  (try simp only [Act.put, nA, nB, nC])
  first | (refine wpList_val (v := ?_) (by rfl) ?_ ?_; rotate_left; focus ((go_simp; (try (first | with_reducible rfl | (constructor <;> with_reducible rfl)))))) | refine wpList_skip (by rfl) ?_
  (try simp only [Act.put, nA, nB, nC])
  first | (refine wpList_val (v := ?_) (by rfl) ?_ ?_; rotate_left; focus ((go_simp; (try (first | with_reducible rfl | (constructor <;> with_reducible rfl)))))) | refine wpList_skip (by rfl) ?_
  (try simp only [Act.put, nA, nB, nC])
  first | (refine wpList_val (v := ?_) (by rfl) ?_ ?_; rotate_left; focus ((go_simp; (try (first | with_reducible rfl | (constructor <;> with_reducible rfl)))))) | refine wpList_skip (by rfl) ?_
  (try simp only [Act.put, nA, nB, nC])
  refine wpList_val (v := ?_) rfl ?_ ?_
  rotate_left
  · (go_simp; (try (first | with_reducible rfl | (constructor <;> with_reducible rfl))))
  (try simp only [Act.put, nA, nB, nC])
  refine wpList_val (v := ?_) rfl ?_ ?_
  rotate_left
  · (go_simp; (try (first | with_reducible rfl | (constructor <;> with_reducible rfl))))
  (try simp only [Act.put, nA, nB, nC])
  first | (refine wpList_val (v := ?_) (by rfl) ?_ ?_; rotate_left; focus ((go_simp; (try (first | with_reducible rfl | (constructor <;> with_reducible rfl)))))) | refine wpList_skip (by rfl) ?_
  (try simp only [Act.put, nA, nB, nC])
  first | (refine wpList_val (v := ?_) (by rfl) ?_ ?_; rotate_left; focus ((go_simp; (try (first | with_reducible rfl | (constructor <;> with_reducible rfl)))))) | refine wpList_skip (by rfl) ?_
  (try simp only [Act.put, nA, nB, nC])
  first | (refine wpList_val (v := ?_) (by rfl) ?_ ?_; rotate_left; focus ((go_simp; (try (first | with_reducible rfl | (constructor <;> with_reducible rfl)))))) | refine wpList_skip (by rfl) ?_
  (try simp only [Act.put, nA, nB, nC])
  first | (refine wpList_val (v := ?_) (by rfl) ?_ ?_; rotate_left; focus ((go_simp; (try (first | with_reducible rfl | (constructor <;> with_reducible rfl)))))) | refine wpList_skip (by rfl) ?_
  (try simp only [Act.put, nA, nB, nC])
  refine wpList_val (v := ?_) rfl ?_ ?_
  rotate_left
  · (go_simp; (try (first | with_reducible rfl | (constructor <;> with_reducible rfl))))
  (try simp only [Act.put, nA, nB, nC])
  refine wpList_val (v := ?_) rfl ?_ ?_
  rotate_left
  · (go_simp; (try (first | with_reducible rfl | (constructor <;> with_reducible rfl))))
  (try simp only [Act.put, nA, nB, nC])
  first | (refine wpList_val (v := ?_) (by rfl) ?_ ?_; rotate_left; focus ((go_simp; (try (first | with_reducible rfl | (constructor <;> with_reducible rfl)))))) | refine wpList_skip (by rfl) ?_
  (try simp only [Act.put, nA, nB, nC])
  first | (refine wpList_val (v := ?_) (by rfl) ?_ ?_; rotate_left; focus ((go_simp; (try (first | with_reducible rfl | (constructor <;> with_reducible rfl)))))) | refine wpList_skip (by rfl) ?_
  (try simp only [Act.put, nA, nB, nC])
  first | (refine wpList_val (v := ?_) (by rfl) ?_ ?_; rotate_left; focus ((go_simp; (try (first | with_reducible rfl | (constructor <;> with_reducible rfl)))))) | refine wpList_skip (by rfl) ?_
  (try simp only [Act.put, nA, nB, nC])
  refine wpList_val (v := ?_) rfl ?_ ?_
  rotate_left
  · (go_simp; (try (first | with_reducible rfl | (constructor <;> with_reducible rfl))))
  (try simp only [Act.put, nA, nB, nC])
  refine wpList_val (v := ?_) rfl ?_ ?_
  rotate_left
  · (go_simp; (try (first | with_reducible rfl | (constructor <;> with_reducible rfl))))
  (try simp only [Act.put, nA, nB, nC])
  first | (refine wpList_val (v := ?_) (by rfl) ?_ ?_; rotate_left; focus (refine Eq.trans (run_load_row 59 (.tmp 6) (by rfl) (pb) (by rfl) _ _ _ _ (P9) Try.underlying59 rfl (icov.trans (by rw [arrv_size]))) ?_; with_reducible rfl)) | refine wpList_skip (by rfl) ?_
  (try simp only [Act.put, nA, nB, nC])
  refine wpList_step (fun K hK => ?_)
  go_simp
  (refine (GC.out _).mono ?_); rintro e w11 ⟨rfl, hb⟩; have HC := Lib.hid (HB.out.down hb); clear hb HB; have cc := HC.out.cell
  (try dsimp only)
  (try simp only [Act.put, nA, nB, nC])
  refine hK _ _ ?_
  clear hK K
  refine wpList_val (v := ?_) rfl ?_ ?_
  rotate_left
  · (go_simp; (try (first | with_reducible rfl | (constructor <;> with_reducible rfl))))
  (try simp only [Act.put, nA, nB, nC])
  refine wpList_val (v := ?_) rfl ?_ ?_
  rotate_left
  · (go_simp; (try (first | with_reducible rfl | (constructor <;> with_reducible rfl))))
  (try simp only [Act.put, nA, nB, nC])
  first | (refine wpList_val (v := ?_) (by rfl) ?_ ?_; rotate_left; focus ((go_simp; (try (first | with_reducible rfl | (constructor <;> with_reducible rfl)))))) | refine wpList_skip (by rfl) ?_
  (try simp only [Act.put, nA, nB, nC])
  first | (refine wpList_val (v := ?_) (by rfl) ?_ ?_; rotate_left; focus ((go_simp; (try (first | with_reducible rfl | (constructor <;> with_reducible rfl)))))) | refine wpList_skip (by rfl) ?_
  (try simp only [Act.put, nA, nB, nC])
  first | (refine wpList_val (v := ?_) (by rfl) ?_ ?_; rotate_left; focus ((go_simp; (try (first | with_reducible rfl | (constructor <;> with_reducible rfl)))))) | refine wpList_skip (by rfl) ?_
  (try simp only [Act.put, nA, nB, nC])
  first | (refine wpList_val (v := ?_) (by rfl) ?_ ?_; rotate_left; focus ((go_simp; (try (first | with_reducible rfl | (constructor <;> with_reducible rfl)))))) | refine wpList_skip (by rfl) ?_
  (try simp only [Act.put, nA, nB, nC])
  first | (refine wpList_val (v := ?_) (by rfl) ?_ ?_; rotate_left; focus ((go_simp; (try (first | with_reducible rfl | (constructor <;> with_reducible rfl)))))) | refine wpList_skip (by rfl) ?_
  (try simp only [Act.put, nA, nB, nC])
  refine wpList_val (v := ?_) rfl ?_ ?_
  rotate_left
  · (go_simp; (try (first | with_reducible rfl | (constructor <;> with_reducible rfl))))
  (try simp only [Act.put, nA, nB, nC])
  refine wpList_val (v := ?_) rfl ?_ ?_
  rotate_left
  · (go_simp; (try (first | with_reducible rfl | (constructor <;> with_reducible rfl))))
  (try simp only [Act.put, nA, nB, nC])
  refine wpList_nil ?_
  have HZ := Lib.hid (own_upd B0.out (Nat.le_refl _) HC.out.upd)
  go_wp2_with fail
  go_ret
  exact ⟨rfl, HZ.out⟩
end Go.Proofs.Ytanmddenleffaaa
/- What is good is kept as it is; rest, at the beginning: closed numbers. No program. -/
namespace Go.Proofs.Ytanmddenleffaaa
def p0 : Nat → Int := fun i => if i = 0 then 8589935 else if i = 6 then -84238486 else if i = 7 ∨ i = 11 ∨ i = 15 ∨ i = 19 then 1073741824 else 0
set_option maxRecDepth 100000
end Go.Proofs.Ytanmddenleffaaa
/- What a step reads of its arguments; an upright body's step. No program. -/
namespace Go.Proofs.Ytanmddenleffaaa
section
variable {A B : Nat → Int} (h : ∀ i, i < 4 → A i = B i)
include h
end
end Go.Proofs.Ytanmddenleffaaa
/- An upright body's step. No program. -/
namespace Go.Proofs.Ytanmddenleffaaa
theorem putF_in {f F : Nat → Int} {o n i : Nat} (h : o ≤ i) (h2 : i < o + n) : putF f o n F i = F (i - o) := by unfold putF; rw [if_pos ⟨h, h2⟩]
theorem putF_out {f F : Nat → Int} {o n i : Nat} (h : i < o ∨ o + n ≤ i) : putF f o n F i = f i := by unfold putF; rw [if_neg (by omega)]
/-- A sample's parts. -/
theorem spF_at (S I : Nat → Int) : spF S I 0 = secV (I 1) ∧ (∀ k, k < 3 → spF S I (4 + k) = spA S I 13 5 (secV (I 1)) k) ∧ (∀ k, k < 4 → spF S I (7 + k) = exV (spA S I 10 2 (secV (I 1))) k) ∧ (∀ k, k < 9 → spF S I (11 + k) = roV S k) := by
  unfold spF
  obtain ⟨t, ht⟩ : ∃ t, secV (I 1) = t := ⟨_, rfl⟩
  rw [ht]
  obtain ⟨X1, h1⟩ : ∃ X, spA S I 10 2 t = X := ⟨_, rfl⟩
  obtain ⟨X2, h2⟩ : ∃ X, spA S I 13 5 t = X := ⟨_, rfl⟩
  obtain ⟨X3, h3⟩ : ∃ X, exV X1 = X := ⟨_, rfl⟩
  obtain ⟨X4, h4⟩ : ∃ X, roV S = X := ⟨_, rfl⟩
  rw [h1, h2, h3, h4]
  clear h1 h2 h3 h4 ht
  refine ⟨?_, fun k hk => ?_, fun k hk => ?_, fun k hk => ?_⟩
  · rw [putF_out (by omega), putF_out (by omega), putF_out (by omega), putF_out (by omega)]; exact if_pos rfl
  · rw [putF_out (by omega), putF_out (by omega), putF_in (by omega) (by omega), show 4 + k - 4 = k by omega]
  · rw [putF_out (by omega), putF_in (by omega) (by omega), show 7 + k - 7 = k by omega]
  · rw [putF_in (by omega) (by omega), show 11 + k - 11 = k by omega]
end Go.Proofs.Ytanmddenleffaaa
