/- Contracts of the program's functions and plain laws, part 23: they hold for all arguments. -/
import Derived.Test.YtgfklheepkgedaaGreatQ20
import Derived.Test.YtgfklheepkgedaaGreatQ22
import Derived.Test.YtgfklheepkgedaaGreatQ13
import Derived.Test.YtgfklheepkgedaaGreatQ04
import Derived.Test.YtgfklheepkgedaaGreatQ21
import Derived.Deep.AppendLies
import Derived.Deep.MidRow
import Derived.Deep.Upon
import Derived.OpenShut
import Derived.ProofKit
import Derived.Carry
/- The reference's Join of jumps. -/
namespace Go.Proofs.YtgfklheepkgedaaGreat
open Go.RowKit
open Go
set_option maxRecDepth 100000
theorem zdr : (#[.int .i64 0, .int .i64 0, .int .i64 0, .int .i64 0, .int .i64 0, .int .i64 0, .int .i64 0, .int .i64 0, .int .i64 0, .int .i64 0] : Array Value) = arrv 10 (fun _ => 0) := by kernel_rfl
/-- What the first loop has set behind k rounds. -/
def rjD (L : Nat → Nat → Int) (n k : Nat) : Nat → Int := fun i => if 4 ≤ i ∧ i < 4 + k then satV (sumS (alC L (i - 4) false) n) else if 7 ≤ i ∧ i < 7 + k then satV (sumS (alC L (i - 7) true) n) else dl0 i
theorem rjD_0 (L : Nat → Nat → Int) (n : Nat) : rjD L n 0 = dl0 := by
  funext i; unfold rjD; rw [if_neg (by omega), if_neg (by omega)]
theorem rjD_next (L : Nat → Nat → Int) (n k : Nat) (hk : k < 3) : Go.Proofs.YtgfklheepkgedaaGreat.upd (Go.Proofs.YtgfklheepkgedaaGreat.upd (rjD L n k) (4 + k) (satV (sumS (alC L k false) n))) (7 + k) (satV (sumS (alC L k true) n)) = rjD L n (k + 1) := by
  funext i
  unfold Go.Proofs.YtgfklheepkgedaaGreat.upd rjD
  by_cases h1 : i = 7 + k
  · subst h1
    rw [if_pos rfl, if_neg (by omega), if_pos (by omega), show 7 + k - 7 = k by omega]
  · rw [if_neg h1]
    by_cases h2 : i = 4 + k
    · subst h2
      rw [if_pos rfl, if_pos (by omega), show 4 + k - 4 = k by omega]
    · rw [if_neg h2]
      by_cases h3 : 4 ≤ i ∧ i < 4 + k
      · rw [if_pos h3, if_pos (by omega)]
      · have h5 : ¬ (4 ≤ i ∧ i < 4 + (k + 1)) := by omega
        by_cases h4 : 7 ≤ i ∧ i < 7 + k
        · rw [if_neg h3, if_pos h4, if_neg h5, if_pos (by omega)]
        · rw [if_neg h3, if_neg h4, if_neg h5, if_neg (by omega)]
/-- .. and the second. -/
def rjT (L : Nat → Nat → Int) (n m : Nat) : Nat → Int := fun i => if i < 4 then jnT L m i else rjD L n 3 i
theorem rjT_0 (L : Nat → Nat → Int) (n : Nat) : rjT L n 0 = rjD L n 3 := by
  funext i
  unfold rjT
  by_cases h : i < 4
  · rw [if_pos h]
    unfold rjD
    rw [if_neg (by omega), if_neg (by omega)]
    rfl
  · rw [if_neg h]
theorem rjT_next (L : Nat → Nat → Int) (n m : Nat) : putF (rjT L n m) 0 4 (jnT L (m + 1)) = rjT L n (m + 1) := by
  funext i
  unfold putF rjT
  by_cases h : i < 4
  · rw [if_pos (by omega), if_pos h]; rfl
  · rw [if_neg (by omega), if_neg h, if_neg h]
theorem rjT_end (L : Nat → Nat → Int) (n : Nat) : ∀ i, i < 10 → rjT L n n i = jnR L n i := fun i hi => by
  unfold rjT jnR putF
  by_cases h : i < 4
  · rw [if_pos h, if_neg (by omega), if_neg (by omega)]
    unfold jnO; rw [if_pos h]
  · rw [if_neg h]
    unfold rjD
    by_cases h7 : i < 7
    · rw [if_pos (by omega), if_neg (by omega), if_pos (by omega)]; rfl
    · rw [if_neg (by omega), if_pos (by omega), if_pos (by omega)]; rfl
def rjF (L : Nat → Nat → Int) (n : Nat) (k : Nat) (pos : Bool) : Bool := alB L k pos n || satH (sumS (alC L k pos) n)
def rjG (L : Nat → Nat → Int) (n : Nat) : Nat → Bool | 0 => false | k + 1 => rjG L n k || rjF L n k false || rjF L n k true
/-- The flag. -/
def rjH (h : Bool) (L : Nat → Nat → Int) (n : Nat) : Bool := h || rjG L n 3 || orB (jnB L) n
theorem alB_sum (L : Nat → Nat → Int) (k : Nat) : ∀ n, alB L k false n = sumB (alC L k false) n ∧ alB L k true n = (sumB (alC L k false) n || sumB (alC L k true) n)
  | 0 => ⟨rfl, rfl⟩
  | n + 1 => by
    obtain ⟨a, b⟩ := alB_sum L k n
    have e0 : alC L k false n = L n (4 + k) := rfl
    have e1 : alC L k true n = L n (7 + k) := rfl
    simp only [alB, sumB, a, b, e0, e1, Bool.false_and, Bool.or_false, Bool.true_and]
    refine ⟨trivial, ?_⟩
    cases sumB (alC L k false) n <;> cases sumB (alC L k true) n <;> cases satH (L n (4 + k)) <;> rfl
theorem rjH_jn (h : Bool) (L : Nat → Nat → Int) (n : Nat) : rjH h L n = jnH h L n := by
  have v : ∀ k, vaH (jnV L) n k = (sumB (alC L k false) n || satH (sumS (alC L k false) n)) := fun k => rfl
  have p : ∀ k, vaH (jnP L) n k = (sumB (alC L k true) n || satH (sumS (alC L k true) n)) := fun k => rfl
  unfold rjH jnH
  have e : rjG L n 3 = (orB (vaH (jnV L) n) 3 || orB (vaH (jnP L) n) 3) := by
    simp only [rjG, rjF, orB, v, p, (alB_sum L 0 n).1, (alB_sum L 0 n).2, (alB_sum L 1 n).1, (alB_sum L 1 n).2, (alB_sum L 2 n).1, (alB_sum L 2 n).2, Bool.false_or]
    generalize sumB (alC L 0 false) n = a0
    generalize sumB (alC L 0 true) n = b0
    generalize sumB (alC L 1 false) n = a1
    generalize sumB (alC L 1 true) n = b1
    generalize sumB (alC L 2 false) n = a2
    generalize sumB (alC L 2 true) n = b2
    generalize satH (sumS (alC L 0 false) n) = c0
    generalize satH (sumS (alC L 0 true) n) = d0
    generalize satH (sumS (alC L 1 false) n) = c1
    generalize satH (sumS (alC L 1 true) n) = d1
    generalize satH (sumS (alC L 2 false) n) = c2
    generalize satH (sumS (alC L 2 true) n) = d2
    cases a0 <;> cases b0 <;> cases a1 <;> cases b1 <;> cases a2 <;> cases b2 <;> cases c0 <;> cases d0 <;> cases c1 <;> cases d1 <;> cases c2 <;> cases d2 <;> rfl
  rw [e]
  cases h <;> cases orB (jnB L) n <;> cases orB (vaH (jnV L) n) 3 <;> cases orB (vaH (jnP L) n) 3 <;> rfl
set_option maxHeartbeats 16000000 in
theorem rjoin_any (c : Addr) (h : Bool) (q : Option Addr) (pb po n cp : Nat) (L : Nat → Nat → Int) (w : World) (hc : w.cell? c = some (.bool h)) (hf : w.frozen? c = false) (hn : n ≤ 100) (hq : 0 < n → q = some ⟨pb, po, none⟩)
    (hL : ∀ i, i < n → ∀ j, j < 10 → w.cell? ⟨pb, po + i * 10 + j, none⟩ = some (.int .i64 (L i j))) :
    Calls Tryz.prog 16 #[.pointer (some c), .slice q n cp] w fun e w' => e = .returned (.agg (arrv 10 (jnR L n))) ∧ Upd c (rjH h L n) w w' := by
  have HQ := Lib.hid hq
  have HN := Lib.hid hn
  have CL := Lib.hid (fun (i : Nat) (hi : i < n) (j : Nat) (hj : j < 10) (x : World) (b : Bool) (u : Upd c b w x) => show x.cell? ⟨pb, po + i * 10 + j, none⟩ = some (.int .i64 (L i j)) from by
    have hcell := hL i hi j hj
    have hpl := World.block_lt_of_cell? _ _ hcell
    have hne : (⟨pb, po + i * 10 + j, none⟩ : Addr) ≠ c := fun e => by rw [e, hc] at hcell; cases hcell
    exact (u.cell hpl (Ne.symm hne)).trans hcell)
  have L0 := Lib.hid (show LsR c h [⟨w.heap.size, 46, 10, fun _ => 0⟩] (w.heap.size + 1) w (w.alloc (.cells #[.int .i64 0, .int .i64 0, .int .i64 0, .int .i64 0, .int .i64 0, .int .i64 0, .int .i64 0, .int .i64 0, .int .i64 0, .int .i64 0] 46)) by
    rw [zdr]; exact (ls_nil hc hf).lay 46 10 (fun _ => 0))
  clear hc hf hq hL hn
  go_enter Tryz.func16, Tryz.ntmps16
  go_upto_region 1 with fail
  generalize w.alloc (.cells #[.int .i64 0, .int .i64 0, .int .i64 0, .int .i64 0, .int .i64 0, .int .i64 0, .int .i64 0, .int .i64 0, .int .i64 0, .int .i64 0] 46) = W0 at *
  refine wp_region_lit ?_
  refine wpList_step (fun K hK => ?_)
  go_simp
  (refine (rnothing_any _).mono ?_); rintro e w1 ⟨rfl, hb⟩; have L1 := Lib.hid (L0.out.down hb); clear hb L0
  (try dsimp only)
  (try simp only [Act.put, nA, nB, nC])
  refine hK _ _ ?_
  clear hK K
  refine wpList_act (v := ?_) (w' := ?_) rfl ?_ ?_
  rotate_left 2
  · (go_simp; (try (first | with_reducible rfl | (constructor <;> with_reducible rfl))))
  (try simp only [Act.put, nA, nB, nC])
  refine wpList_done (w' := ?_) rfl ?_ ?_
  rotate_left
  · (refine Eq.trans (run_store_row 46 (.tmp 5) (.tmp 8) (by rfl) (w1.heap.size) (by rfl) (by rfl) (show Blk (w1.alloc (.cells #[.int .i64 0, .int .i64 0, .int .i64 0, .int .i64 0, .int .i64 0, .int .i64 0, .int .i64 0, .int .i64 0, .int .i64 0, .int .i64 0] 46)) w1.heap.size 46 10 (fun _ => 0) by rw [zdr]; exact Blk.new _ _ _ _) (irdl.trans rfl)) ?_; with_reducible rfl)
  (try simp only [Act.put, nA, nB, nC])
  refine wpList_nil ?_
  have M1 := L1.out.put 46 10 (fun _ => 0) dl0
  rw [← zdr] at M1
  have M1 := Lib.hid M1
  obtain ⟨db, hdb⟩ : ∃ x, w1.heap.size = x := ⟨_, rfl⟩
  have hnb := Lib.hid (show w.heap.size ≠ db by have := L1.out.e0.lt; omega)
  rw [hdb] at M1 ⊢
  generalize (w1.alloc (.cells #[.int .i64 0, .int .i64 0, .int .i64 0, .int .i64 0, .int .i64 0, .int .i64 0, .int .i64 0, .int .i64 0, .int .i64 0, .int .i64 0] 46)).setRow db (arrv 10 dl0) = W1 at *
  clear L1 hdb
  go_upto_region 3 with fail
  go_loopw [6] (fun i wr => ∃ k : Nat, k ≤ 3 ∧ i = .int .i64 k ∧ Hid (LsR c (h || rjG L n k) [⟨db, 46, 10, rjD L n k⟩, ⟨w.heap.size, 46, 10, fun _ => 0⟩] (db + 1) w wr)) (fun i _ => 3 - (intOf i).toNat)
  case atStart => exact ⟨0, by omega, rfl, Lib.hid (by rw [rjD_0, show (h || rjG L n 0) = h by simp [rjG]]; exact M1.out)⟩
  case round =>
    obtain ⟨k, hk, rfl, R⟩ := hrel
    clear M1
    have k0 : (0 : Int) ≤ (k : Int) := Int.natCast_nonneg _
    by_cases hlt : k < 3
    · have d2 : decide ((k : Int) < 3) = true := by simp; omega
      have k1 : (k : Int) < 3 := by omega
      have E := Lib.hid (rjD_next L n k hlt)
      have EG := Lib.hid (show (h || rjG L n k || rjF L n k false || rjF L n k true) = (h || rjG L n (k + 1)) by simp [rjG, Bool.or_assoc])
      have a1 : (0 : Int) ≤ 4 + (k : Int) := by omega
      go_upto_region 6 with (go_at_call 38; (refine (rall_any c _ q pb po n cp L k false _ R.out.cell R.out.free HN.out hlt HQ.out (fun i hi j hj => CL.out i hi j hj _ _ R.out.upd)).mono ?_); rintro e w2 ⟨rfl, hu⟩; have R1 := Lib.hid (R.out.upd' hu); have u0 := R1.out.e0.cell (i := 4 + k) (by omega); have u1 := R1.out.e0.free (4 + k); clear hu R)
      have R2 := Lib.hid (R1.out.set (by intro e he; simp at he; subst he; exact hnb.out) (4 + k) (satV (sumS (alC L k false) n)))
      generalize w2.setCell ⟨db, 4 + k, none⟩ (.int .i64 (satV (sumS (alC L k false) n))) = W2 at *
      clear R1 u0 u1 a1
      have a1 : (0 : Int) ≤ 7 + (k : Int) := by omega
      go_upto_region 4 with (go_at_call 38; (refine (rall_any c _ q pb po n cp L k true _ R2.out.cell R2.out.free HN.out hlt HQ.out (fun i hi j hj => CL.out i hi j hj _ _ R2.out.upd)).mono ?_); rintro e w3 ⟨rfl, hu⟩; have R3 := Lib.hid (R2.out.upd' hu); have u0 := R3.out.e0.cell (i := 7 + k) (by omega); have u1 := R3.out.e0.free (7 + k); clear hu R2)
      have R4 := R3.out.set (by intro e he; simp at he; subst he; exact hnb.out) (7 + k) (satV (sumS (alC L k true) n))
      rw [E.out] at R4
      have R4 := Lib.hid R4
      generalize w3.setCell ⟨db, 7 + k, none⟩ (.int .i64 (satV (sumS (alC L k true) n))) = W3 at *
      clear R3 u0 u1
      go_wp2_with fail
      go_roundw
      case rel => exact ⟨k + 1, by omega, by go_num, Lib.hid (by rw [← EG.out]; have := R4.out; unfold rjF; simp only [Bool.or_assoc] at this ⊢; exact this)⟩
      case measure => simp [intOf]; omega
    · obtain rfl : k = 3 := by omega
      have d2 : decide (((3 : Nat) : Int) < 3) = false := by decide
      obtain ⟨H1, hH1⟩ : ∃ x, (h || rjG L n 3) = x := ⟨_, rfl⟩
      have EH := Lib.hid (show ∀ m, (H1 || orB (jnB L) m || qmH (L m) (jnT L m) || uniH (qmV (L m) (jnT L m))) = (H1 || orB (jnB L) (m + 1)) from fun m => by
        simp only [orB, jnB, Bool.or_assoc])
      have HH := Lib.hid (show rjH h L n = (H1 || orB (jnB L) n) by rw [← hH1]; rfl)
      rw [hH1] at R
      clear hH1
      go_upto_region 8 with fail
      go_loopw [7] (fun i wr => ∃ m : Nat, m ≤ n ∧ i = .int .i64 m ∧ Hid (LsR c (H1 || orB (jnB L) m) [⟨db, 46, 10, rjT L n m⟩, ⟨w.heap.size, 46, 10, fun _ => 0⟩] (db + 1) w wr)) (fun i _ => n - (intOf i).toNat)
      case atStart => exact ⟨0, Nat.zero_le _, by go_num, Lib.hid (by rw [rjT_0, show (H1 || orB (jnB L) 0) = H1 by simp [orB]]; exact R.out)⟩
      case round =>
        obtain ⟨m, hm, rfl, R⟩ := hrel
        have m0 : (0 : Int) ≤ (m : Int) := Int.natCast_nonneg _
        have n100 : (n : Int) ≤ 100 := by have := HN.out; omega
        by_cases hlt : m < n
        · have d1 : decide (m < n) = true := by simpa using hlt
          have d2 : decide ((m : Int) < (n : Int)) = true := by simpa using hlt
          have k1 : (m : Int) < (n : Int) := by omega
          obtain rfl := HQ.out (by omega)
          have CM := Lib.hid (fun (x : World) (b : Bool) (u : Upd c b w x) (j : Nat) (hj : j < 4) => CL.out m hlt j (by omega) x b u)
          have EM := Lib.hid (EH.out m)
          have ET := Lib.hid (And.intro (rjT_next L n m) (show jnT L (m + 1) = uniV (qmV (L m) (jnT L m)) from rfl))
          have E4 := Lib.hid (show arrv 4 (fun i => rjT L n m (0 + i)) = arrv 4 (jnT L m) from arrv_congr fun i hi => by rw [Nat.zero_add]; unfold rjT; rw [if_pos hi])
          obtain ⟨T, hT⟩ : ∃ x, jnT L m = x := ⟨_, rfl⟩
          obtain ⟨X, hX⟩ : ∃ x, L m = x := ⟨_, rfl⟩
          obtain ⟨D, hD⟩ : ∃ x, rjT L n m = x := ⟨_, rfl⟩
          rw [hT] at EM ET E4
          rw [hX] at CM EM ET
          rw [hD] at ET E4 R
          clear hT hX hD
          go_upto_region 10 with fail
          have HS := Lib.hid R.out.drew
          clear R
          (try simp only [Act.put])
          refine wp_region_M (fun w' => Blk w' db 46 10 D ∧ ∀ j, j < 4 → w'.cell? ⟨pb, po + m * 10 + j, none⟩ = some (.int .i64 (X j))) 12 (by kernel_rfl) ?_ (fun hHeld => ?_)
          · exact ⟨HS.out.e0, CM.out _ _ HS.out.upd⟩
          refine wpAnyM_take 0 (v := ?_) rfl (by kernel_rfl) (fun _ _ _ h => h) (Or.inl ⟨by rfl, ?_⟩) (by assumption) ?_
          rotate_left
          · (intro wx hSw; (try dsimp only at hSw); go_simp; (try with_reducible rfl))
          (try simp only [Act.put, nA, nB, nC])
          refine wpAnyM_take 1 (v := ?_) rfl (by kernel_rfl) (fun _ _ _ h => h) (Or.inl ⟨by rfl, ?_⟩) (by assumption) ?_
          rotate_left
          · (intro wx hSw; (try dsimp only at hSw); go_simp; (try with_reducible rfl))
          (try simp only [Act.put, nA, nB, nC])
          refine wpAnyM_take 2 (v := ?_) rfl (by kernel_rfl) (fun _ _ _ h => h) (Or.inl ⟨by rfl, ?_⟩) (by assumption) ?_
          rotate_left
          · (intro wx hSw; (try dsimp only at hSw); go_simp; (try with_reducible rfl))
          (try simp only [Act.put, nA, nB, nC])
          refine wpAnyM_take 3 (v := ?_) rfl (by kernel_rfl) (fun _ _ _ h => h) (Or.inl ⟨by rfl, ?_⟩) (by assumption) ?_
          rotate_left
          · (intro wx hSw; (try dsimp only at hSw); go_simp; (try with_reducible rfl))
          (try simp only [Act.put, nA, nB, nC])
          refine wpAnyM_take 4 (v := ?_) rfl (by kernel_rfl) (fun _ _ _ h => h) (Or.inl ⟨by rfl, ?_⟩) (by assumption) ?_
          rotate_left
          · (intro wx hSw; (try dsimp only at hSw); go_simp; (try with_reducible rfl))
          (try simp only [Act.put, nA, nB, nC])
          refine wpAnyM_take 5 (v := ?_) rfl (by kernel_rfl) (fun _ _ _ h => h) (Or.inl ⟨by rfl, ?_⟩) (by assumption) ?_
          rotate_left
          · (intro wx hSw; (try dsimp only at hSw); go_simp; (try with_reducible rfl))
          (try simp only [Act.put, nA, nB, nC])
          refine wpAnyM_take 6 (v := ?_) rfl (by kernel_rfl) (fun _ _ _ h => h) (Or.inl ⟨by rfl, ?_⟩) (by assumption) ?_
          rotate_left
          · (intro wx hSw; refine Eq.trans (run_load_mid3 43 (.tmp 38) (by rfl) pb (po + m * 10) 4 (by rfl) X hSw.2 _ Tryz.underlying43 rfl irq) ?_; with_reducible rfl)
          (try simp only [Act.put, nA, nB, nC])
          refine wpAnyM_take 7 (v := ?_) rfl (by kernel_rfl) (fun _ _ _ h => h) (Or.inl ⟨by rfl, ?_⟩) (by assumption) ?_
          rotate_left
          · (intro wx hSw; (try dsimp only at hSw); go_simp; (try with_reducible rfl))
          (try simp only [Act.put, nA, nB, nC])
          refine wpAnyM_take 8 (v := ?_) rfl (by kernel_rfl) (fun _ _ _ h => h) (Or.inl ⟨by rfl, ?_⟩) (by assumption) ?_
          rotate_left
          · (intro wx hSw; refine Eq.trans (run_load_sub 43 (.tmp 40) (by rfl) db 0 4 (by rfl) hSw.1 (by decide) _ Tryz.underlying43 rfl irq) ?_; rw [E4.out])
          (try simp only [Act.put, nA, nB, nC])
          refine wpAnyM_oneS 9 rfl (by kernel_rfl) (fun K hK => ?_)
          go_simp
          (refine (rqmul_any c _ X T _ HS.out.cell HS.out.free).mono ?_); rintro e w4 ⟨rfl, hu⟩; have HS2 := Lib.hid (HS.out.upd' hu); clear HS hu; have HS := HS2; clear HS2
          (try dsimp only)
          (try simp only [Act.put, nA, nB, nC])
          clear hHeld
          refine hK.out _ _ ?_ (fun hHeld => ?_)
          · exact ⟨HS.out.e0, CM.out _ _ HS.out.upd⟩
          clear hK K
          (try simp only [Act.put, nA, nB, nC])
          refine wpAnyM_oneS 10 rfl (by kernel_rfl) (fun K hK => ?_)
          go_simp
          (refine (rqunit_any c _ (qmV X T) _ HS.out.cell HS.out.free).mono ?_); rintro e w5 ⟨rfl, hu⟩; have HS2 := Lib.hid (HS.out.upd' hu); clear HS hu; have HS := HS2; clear HS2
          (try dsimp only)
          (try simp only [Act.put, nA, nB, nC])
          clear hHeld
          refine hK.out _ _ ?_ (fun hHeld => ?_)
          · exact ⟨HS.out.e0, CM.out _ _ HS.out.upd⟩
          clear hK K
          (try simp only [Act.put, nA, nB, nC])
          refine wpAnyM_take 11 (v := ?_) rfl (by kernel_rfl) (fun _ _ _ h => h) (Or.inl ⟨by rfl, ?_⟩) (by assumption) ?_
          rotate_left
          · (intro wx hSw; (try dsimp only at hSw); go_simp; (try with_reducible rfl))
          (try simp only [Act.put, nA, nB, nC])
          refine wpAnyM_doneL 12 rfl (by kernel_rfl) (by rfl) (by kernel_rfl) (run_store_sub 43 (.tmp 44) (.tmp 43) rfl db 0 rfl rfl HS.out.e0 (by decide) irq) ?_
          (try simp only [Act.put, nA, nB, nC])
          refine wpAnyM_done (by kernel_rfl) ?_ _
          have R2 := HS.out.row (by intro e he; simp at he; subst he; exact hnb.out) (putF D 0 4 (uniV (qmV X T)))
          generalize w5.setRow db (arrv 10 (putF D 0 4 (uniV (qmV X T)))) = W5 at *
          rw [← ET.out.2, ET.out.1, EM.out] at R2
          have R2 := Lib.hid R2
          clear HS
          go_wp2_with fail
          go_roundw
          case rel => exact ⟨m + 1, by omega, by go_num, R2⟩
          case measure => simp [intOf]; omega
        · obtain rfl : m = n := by omega
          have d1 : decide (m < m) = false := by simp
          have d2 : decide ((m : Int) < (m : Int)) = false := by simp
          have EE := Lib.hid (show arrv 10 (rjT L m m) = arrv 10 (jnR L m) from arrv_congr (rjT_end L m))
          obtain ⟨D, hD⟩ : ∃ x, rjT L m m = x := ⟨_, rfl⟩
          rw [hD] at EE R
          clear hD
          go_upto_region 11 with fail
          have P0 := R.out.e0
          have P1 := R.out.e1
          refine wp_region_lit ?_
          refine wpList_val (v := ?_) rfl ?_ ?_
          rotate_left
          · (refine Eq.trans (run_load_row 46 (.tmp 5) (by rfl) db (by rfl) _ _ _ _ P0 Tryz.underlying46 rfl (irdl.trans (by rw [arrv_size]))) ?_; with_reducible rfl)
          (try simp only [Act.put, nA, nB, nC])
          refine wpList_done (w' := ?_) rfl ?_ ?_
          rotate_left
          · (refine Eq.trans (run_store_row 46 (.tmp 4) (.tmp 45) (by rfl) w.heap.size (by rfl) (by rfl) P1 (irdl.trans rfl)) ?_; with_reducible rfl)
          (try simp only [Act.put, nA, nB, nC])
          refine wpList_nil ?_
          have R3 := Lib.hid ((R.out.sub (E' := [⟨w.heap.size, 46, 10, fun _ => 0⟩]) (by simp)).row (by simp) D)
          clear P0 P1
          generalize wr.setRow w.heap.size (arrv 10 D) = W6 at *
          go_wp2_with fail
          refine bodyPost_ret (results_cell_row Tryz.results16 _ _ w.heap.size 46 (arrv 10 _) (0, 0) _ rfl R3.out.e0 Tryz.underlying46 rfl (irdl.trans (by rw [arrv_size]))) rfl ⟨by rw [EE.out], by rw [HH.out]; exact R3.out.upd⟩
end Go.Proofs.YtgfklheepkgedaaGreat
/- Slices of reset.Delta that a call builds by append (printed by wip/gen_own.py out of the outputs' texts). -/
namespace Go.Proofs.YtgfklheepkgedaaGreat
open Go.RowKit
open Go
set_option maxRecDepth 100000
def outc_A (n : Nat) (L : Nat → Nat → Int) : List Value := (List.range n).flatMap fun i => (List.range 10).map fun j => Value.int .i64 (L i j)
theorem outc_succ_A (n : Nat) (L : Nat → Nat → Int) : outc_A (n + 1) L = outc_A n L ++ (List.range 10).map fun j => Value.int .i64 (L n j) := by
  simp [outc_A, List.range_succ, List.flatMap_append]
theorem outc_len_A : ∀ (n : Nat) (L : Nat → Nat → Int), (outc_A n L).length = n * 10
  | 0, _ => rfl
  | n + 1, L => by rw [outc_succ_A, List.length_append, outc_len_A n L]; simp; omega
theorem outc_get_A {L : Nat → Nat → Int} : ∀ {n k : Nat}, k < n → ∀ j, j < 10 → (outc_A n L)[k * 10 + j]? = some (.int .i64 (L k j))
  | 0, _, h, _, _ => by omega
  | n + 1, k, h, j, hj => by
    have hl := outc_len_A n L
    rw [outc_succ_A]
    by_cases e : k = n
    · subst e
      rw [List.getElem?_append_right (by omega), hl, show k * 10 + j - k * 10 = j by omega]
      simp [hj]
    · rw [List.getElem?_append_left (by omega)]
      exact outc_get_A (n := n) (k := k) (by omega) j hj
theorem outc_congr_A {L M : Nat → Nat → Int} {n : Nat} (h : ∀ i, i < n → ∀ j, j < 10 → L i j = M i j) : outc_A n L = outc_A n M := by
  apply List.ext_getElem?
  intro i
  by_cases hi : i < n * 10
  · have a := outc_get_A (L := L) (n := n) (k := i / 10) (by omega) (i % 10) (by omega)
    have b := outc_get_A (L := M) (n := n) (k := i / 10) (by omega) (i % 10) (by omega)
    rw [show i / 10 * 10 + i % 10 = i by omega] at a b
    rw [a, b, h _ (by omega) _ (by omega)]
  · rw [List.getElem?_eq_none (by rw [outc_len_A]; omega), List.getElem?_eq_none (by rw [outc_len_A]; omega)]
theorem outc_one_A {n : Nat} {L : Nat → Nat → Int} : ∀ u ∈ outc_A n L, u.oneCell' = true := by
  intro u hu
  simp only [outc_A, List.mem_flatMap, List.mem_map] at hu
  obtain ⟨_, _, j, _, rfl⟩ := hu
  rfl
def OwnO_A (w : World) (v : Value) (n : Nat) (L : Nat → Nat → Int) : Prop := w.ownsRow 0 40 10 v n (outc_A n L)
theorem OwnO_A.nil (w : World) (L : Nat → Nat → Int) : OwnO_A w (.slice none 0 0) 0 L := World.ownsRow_nil w 0 40 10
theorem OwnO_A.kept {w w' : World} {v : Value} {n : Nat} {L : Nat → Nat → Int} (h : OwnO_A w v n L) (hs : ∀ k, k < w.heap.size → some k = v.ownBlock → w'.heap[k]? = w.heap[k]?) : OwnO_A w' v n L := by
  refine ⟨h.1, ?_⟩
  rcases h.2 with hn | ⟨g, cap, cur, rfl, hb, hgg, rest⟩
  · exact .inl hn
  · refine .inr ⟨g, cap, cur, rfl, hb, ?_, rest⟩
    rw [hs g (Array.getElem?_eq_some_iff.1 hgg).1 rfl]
    exact hgg
theorem OwnO_A.below {w w' : World} {v : Value} {n : Nat} {L : Nat → Nat → Int} (h : OwnO_A w v n L) (b : Below w.heap.size w w') : OwnO_A w' v n L := h.kept fun k hk _ => b.block k hk
theorem OwnO_A.congr {w : World} {v : Value} {n : Nat} {L M : Nat → Nat → Int} (h : OwnO_A w v n L) (e : ∀ i, i < n → ∀ j, j < 10 → L i j = M i j) : OwnO_A w v n M := by
  unfold OwnO_A at *; rw [← outc_congr_A e]; exact h
theorem OwnO_A.form {w : World} {v : Value} {n : Nat} {L : Nat → Nat → Int} (h : OwnO_A w v n L) :
    (n = 0 ∧ v = .slice none 0 0) ∨ ∃ g cp, v = .slice (some ⟨g, 0, none⟩) n cp ∧ g < w.heap.size ∧ n ≤ cp ∧ ∀ i, i < n → ∀ j, j < 10 → w.cell? ⟨g, i * 10 + j, none⟩ = some (.int .i64 (L i j)) := by
  rcases h.2 with ⟨hv, h0⟩ | ⟨g, cap, cur, rfl, hb, hgg, h1, h2, h3, h4⟩
  · exact .inl ⟨h0, hv⟩
  · refine .inr ⟨g, cap, rfl, (Array.getElem?_eq_some_iff.1 hgg).1, h1, fun j hj k hk => ?_⟩
    rw [cell_of_row w g (j * 10 + k) cur 40 (0, 0) hgg]
    have hh := outc_get_A (L := L) hj k hk
    rw [← h4, List.getElem?_take] at hh
    split at hh
    · simpa using hh
    · cases hh
theorem OwnO_A.lt {w : World} {v : Value} {n : Nat} {L : Nat → Nat → Int} (h : OwnO_A w v n L) {g : Nat} (e : v.ownBlock = some g) : g < w.heap.size := (World.ownsRow.lt h g e).2
/-- A new one behind the others. -/
theorem info_Out_A : ∃ i, Tryz.prog.info? 40 = some i ∧ i.zero = some (.agg (arrv 10 (fun _ => 0))) ∧ i.size = 10 ∧ i.bytes = 80 := by
  have h : (Tryz.prog.info? 40).map (fun i => (i.zero, i.size, i.bytes)) = some (some (.agg (arrv 10 (fun _ => 0))), 10, 80) := by kernel_rfl
  cases e : Tryz.prog.info? 40 with
  | none => rw [e] at h; cases h
  | some i => rw [e] at h; simp at h; exact ⟨i, rfl, h.1, h.2.1, h.2.2⟩
theorem zout_A : (Value.agg (arrv 10 (fun _ => 0))).cells.size = 10 := by
  rw [show (Value.agg (arrv 10 (fun _ => 0))).cells = arrv 10 (fun _ => 0) from rfl, arrv_size]
theorem outc_app_A (n m : Nat) (L M : Nat → Nat → Int) : outc_A n L ++ outc_A m M = outc_A (n + m) (fun i => if i < n then L i else M (i - n)) := by
  apply List.ext_getElem?
  intro k
  by_cases hk : k < (n + m) * 10
  · have b := outc_get_A (L := fun i => if i < n then L i else M (i - n)) (n := n + m) (k := k / 10) (by omega) (k % 10) (by omega)
    rw [show k / 10 * 10 + k % 10 = k by omega] at b
    rw [b]
    by_cases h : k < n * 10
    · have b0 := outc_get_A (L := L) (n := n) (k := k / 10) (by omega) (k % 10) (by omega)
      rw [show k / 10 * 10 + k % 10 = k by omega] at b0
      rw [List.getElem?_append_left (by rw [outc_len_A]; omega), b0, if_pos (by omega)]
    · have b0 := outc_get_A (L := M) (n := m) (k := k / 10 - n) (by omega) (k % 10) (by omega)
      rw [show (k / 10 - n) * 10 + k % 10 = k - n * 10 by omega] at b0
      rw [List.getElem?_append_right (by rw [outc_len_A]; omega), outc_len_A, b0, if_neg (by omega)]
  · rw [List.getElem?_eq_none (by rw [List.length_append, outc_len_A, outc_len_A]; omega), List.getElem?_eq_none (by rw [outc_len_A]; omega)]
/-- append of m outputs that lie somewhere. -/
theorem run_appOut_A {w : World} {v : Value} {n : Nat} {L : Nat → Nat → Int} (hown : OwnO_A w v n L) (nb off c m : Nat) (M : Nat → Nat → Int) (hM : ∀ i, i < m → ∀ j, j < 10 → w.cell? ⟨nb, off + (i * 10 + j), none⟩ = some (.int .i64 (M i j))) (hm : 0 < m) (hn : n + m ≤ 1000000) (ty : TypeId) (H : Nat) (hH : w.heap.size = H) :
    ∃ g cap w', (Builtin.append_ #[57, 57] ty #[v, .slice (some ⟨nb, off, none⟩) m c]).run Tryz.prog w = .ok (.slice (some ⟨g, 0, none⟩) (n + m) cap) w' ∧
      OwnO_A w' (.slice (some ⟨g, 0, none⟩) (n + m) cap) (n + m) (fun i => if i < n then L i else M (i - n)) ∧ w.grownBy w' v.ownBlock ∧ (v.ownBlock = some g ∨ g = H) ∧ g < w'.heap.size := by
  obtain ⟨i, hi, hz, hs, hb⟩ := info_Out_A
  obtain ⟨g, cap, w', h1, h2, h3, h4, h5⟩ := run_append_lies (P := Tryz.prog) w 57 ty 0 40 i (.agg (arrv 10 (fun _ => 0))) 10 80 Tryz.underlying57 hi hz hs hb zout_A (by decide) v n (outc_A n L) hown ⟨nb, off, none⟩ m c (outc_A m M) (outc_len_A m M)
    (fun j u hu => by
      have hj : j < m * 10 := by have := (List.getElem?_eq_some_iff.1 hu).1; rwa [outc_len_A] at this
      have b0 := outc_get_A (L := M) (n := m) (k := j / 10) (by omega) (j % 10) (by omega)
      rw [show j / 10 * 10 + j % 10 = j by omega] at b0
      rw [b0] at hu; injection hu with hu
      rw [← hu, Addr.add_mid]
      have := hM (j / 10) (by omega) (j % 10) (by omega)
      rwa [show j / 10 * 10 + j % 10 = j by omega] at this) outc_one_A hm (by unfold maxLen; omega) (by omega) (Nat.zero_le _) H hH
  exact ⟨g, cap, w', h1, by unfold OwnO_A; rw [← outc_app_A]; exact h2, h3, h4, h5⟩
theorem wp_bslo0_A {o : Oper} {a : Act} {w : World} {K : Act → World → Prop} {Q : Exit → Act → World → Prop} (ho : o.op = .buildSlice 57 0 #[])
    (h : K (a.put o.dst (.slice (some ⟨w.heap.size, 0, none⟩) 0 0)) (w.alloc (.cells #[] 40))) : o.wp Tryz.prog a w K Q := by
  have hr : (Instr.buildSlice 57 0 #[]).run Tryz.prog w = .ok (.slice (some ⟨w.heap.size, 0, none⟩) 0 0) (w.alloc (.cells #[] 40)) := by
    have hs : (sizeOf 40).run Tryz.prog w = .ok 10 w := by kernel_rfl
    unfold Instr.buildSlice
    simp [Sem.run_bind, run_underlying Tryz.underlying57, hs, Instr.fill, newRow, newObj, go_sem]
    rfl
  unfold Oper.wp execOp
  simp only [ho, Sem.run_bind, List.map_toArray, List.map_nil, hr, Result.andThen_ok]
  exact h
theorem own_empty_A (w : World) (L : Nat → Nat → Int) : OwnO_A (w.alloc (.cells #[] 40)) (.slice (some ⟨w.heap.size, 0, none⟩) 0 0) 0 L :=
  ⟨by simp [outc_A], .inr ⟨w.heap.size, 0, #[], rfl, Nat.zero_le _, heap_alloc_new w _, Nat.le_refl _, by unfold maxLen; omega, rfl, by simp [outc_A]⟩⟩
/-- append of a whole slice (from off on) to an empty one. -/
theorem run_appAllO_A {w : World} (b : Nat) (ty : TypeId) (q : Option Addr) (n cp : Nat) (M : Nat → Nat → Int) (hb : OwnO_A w (.slice (some ⟨b, 0, none⟩) 0 0) 0 M) (hL : 0 < n → ∃ gb off, q = some ⟨gb, off, none⟩ ∧ ∀ i, i < n → ∀ j, j < 10 → w.cell? ⟨gb, off + (i * 10 + j), none⟩ = some (.int .i64 (M i j))) (hn : n ≤ 1000) (hbl : b < w.heap.size) :
    ∃ g cap w', (Builtin.append_ #[57, 57] ty #[.slice (some ⟨b, 0, none⟩) 0 0, .slice q n cp]).run Tryz.prog w = .ok (.slice (some ⟨g, 0, none⟩) n cap) w' ∧
      OwnO_A w' (.slice (some ⟨g, 0, none⟩) n cap) n M ∧ w.grownBy w' (some b) ∧ (g = b ∨ g = w.heap.size) := by
  rcases Nat.eq_zero_or_pos n with h0 | h0
  · subst h0
    obtain ⟨i, hi, hz, hs, hby⟩ := info_Out_A
    have ht := Tryz.underlying57
    refine ⟨b, 0, w, ?_, hb, ⟨rfl, rfl, rfl, Nat.le_refl _, fun _ _ _ => rfl⟩, .inl rfl⟩
    refine run_append_nothing w _ _ ty _ i ht hi (some ⟨b, 0, none⟩) 0 0 (Nat.le_refl _) _ ⟨.inl ⟨_, ht⟩, fun w' => ?_, ?_, ?_, by simp, fun u hu => by cases hu⟩
    · simp [Builtin.lenOf]
    · cases q <;> simp [Builtin.firstCells, loadCells, loadCellsFrom]
    · cases q <;> simp [Builtin.firstCells, loadCells, loadCellsFrom]
  · obtain ⟨gb, off, rfl, hc⟩ := hL h0
    obtain ⟨g, cap, w', h1, h2, h3, h4, h5⟩ := run_appOut_A hb gb off cp n M hc h0 (by omega) ty _ rfl
    rw [Nat.zero_add] at h1 h2
    refine ⟨g, cap, w', h1, h2.congr fun i hi j hj => by rw [if_neg (by omega)]; rfl, h3, ?_⟩
    rcases h4 with h4 | h4
    · left; simpa [Value.ownBlock] using h4.symm
    · exact .inr h4
theorem wp_appAllO_A {o : Oper} {a : Act} {w : World} {K : Act → World → Prop} {Q : Exit → Act → World → Prop} (s x : Operand)
    (ho : o.op = .call { callee := .builtin .append, args := #[s, x], argTypes := #[57, 57] })
    (b : Nat) (q : Option Addr) (n cp : Nat) (M : Nat → Nat → Int) (hs : a.eval s = .slice (some ⟨b, 0, none⟩) 0 0) (hx : a.eval x = .slice q n cp) (hb : OwnO_A w (.slice (some ⟨b, 0, none⟩) 0 0) 0 M) (hL : 0 < n → ∃ gb off, q = some ⟨gb, off, none⟩ ∧ ∀ i, i < n → ∀ j, j < 10 → w.cell? ⟨gb, off + (i * 10 + j), none⟩ = some (.int .i64 (M i j))) (hn : n ≤ 1000) (hbl : b < w.heap.size)
    (h : ∀ g cap w', OwnO_A w' (.slice (some ⟨g, 0, none⟩) n cap) n M → w.grownBy w' (some b) → (g = b ∨ g = w.heap.size) → K (a.put o.dst (.slice (some ⟨g, 0, none⟩) n cap)) w') : o.wp Tryz.prog a w K Q := by
  obtain ⟨g, cap, w', hr, h1, h2, h3⟩ := run_appAllO_A b o.type q n cp M hb hL hn hbl
  unfold Oper.wp execOp
  simp only [ho, resolve, invoke, builtin, Sem.run_bind, Sem.run_pure, Result.andThen_ok, List.map_toArray, List.map_cons, List.map_nil, hs, hx, hr]
  exact h g cap w' h1 h2 h3
end Go.Proofs.YtgfklheepkgedaaGreat
/- Slices of astrolaberef28.Delta that a call builds by append (printed by wip/gen_own.py out of the outputs' texts). -/
namespace Go.Proofs.YtgfklheepkgedaaGreat
open Go.RowKit
open Go
set_option maxRecDepth 100000
def outc_B (n : Nat) (L : Nat → Nat → Int) : List Value := (List.range n).flatMap fun i => (List.range 10).map fun j => Value.int .i64 (L i j)
theorem outc_succ_B (n : Nat) (L : Nat → Nat → Int) : outc_B (n + 1) L = outc_B n L ++ (List.range 10).map fun j => Value.int .i64 (L n j) := by
  simp [outc_B, List.range_succ, List.flatMap_append]
theorem outc_len_B : ∀ (n : Nat) (L : Nat → Nat → Int), (outc_B n L).length = n * 10
  | 0, _ => rfl
  | n + 1, L => by rw [outc_succ_B, List.length_append, outc_len_B n L]; simp; omega
theorem outc_get_B {L : Nat → Nat → Int} : ∀ {n k : Nat}, k < n → ∀ j, j < 10 → (outc_B n L)[k * 10 + j]? = some (.int .i64 (L k j))
  | 0, _, h, _, _ => by omega
  | n + 1, k, h, j, hj => by
    have hl := outc_len_B n L
    rw [outc_succ_B]
    by_cases e : k = n
    · subst e
      rw [List.getElem?_append_right (by omega), hl, show k * 10 + j - k * 10 = j by omega]
      simp [hj]
    · rw [List.getElem?_append_left (by omega)]
      exact outc_get_B (n := n) (k := k) (by omega) j hj
theorem outc_congr_B {L M : Nat → Nat → Int} {n : Nat} (h : ∀ i, i < n → ∀ j, j < 10 → L i j = M i j) : outc_B n L = outc_B n M := by
  apply List.ext_getElem?
  intro i
  by_cases hi : i < n * 10
  · have a := outc_get_B (L := L) (n := n) (k := i / 10) (by omega) (i % 10) (by omega)
    have b := outc_get_B (L := M) (n := n) (k := i / 10) (by omega) (i % 10) (by omega)
    rw [show i / 10 * 10 + i % 10 = i by omega] at a b
    rw [a, b, h _ (by omega) _ (by omega)]
  · rw [List.getElem?_eq_none (by rw [outc_len_B]; omega), List.getElem?_eq_none (by rw [outc_len_B]; omega)]
theorem outc_one_B {n : Nat} {L : Nat → Nat → Int} : ∀ u ∈ outc_B n L, u.oneCell' = true := by
  intro u hu
  simp only [outc_B, List.mem_flatMap, List.mem_map] at hu
  obtain ⟨_, _, j, _, rfl⟩ := hu
  rfl
def OwnO_B (w : World) (v : Value) (n : Nat) (L : Nat → Nat → Int) : Prop := w.ownsRow 0 46 10 v n (outc_B n L)
theorem OwnO_B.nil (w : World) (L : Nat → Nat → Int) : OwnO_B w (.slice none 0 0) 0 L := World.ownsRow_nil w 0 46 10
theorem OwnO_B.kept {w w' : World} {v : Value} {n : Nat} {L : Nat → Nat → Int} (h : OwnO_B w v n L) (hs : ∀ k, k < w.heap.size → some k = v.ownBlock → w'.heap[k]? = w.heap[k]?) : OwnO_B w' v n L := by
  refine ⟨h.1, ?_⟩
  rcases h.2 with hn | ⟨g, cap, cur, rfl, hb, hgg, rest⟩
  · exact .inl hn
  · refine .inr ⟨g, cap, cur, rfl, hb, ?_, rest⟩
    rw [hs g (Array.getElem?_eq_some_iff.1 hgg).1 rfl]
    exact hgg
theorem OwnO_B.below {w w' : World} {v : Value} {n : Nat} {L : Nat → Nat → Int} (h : OwnO_B w v n L) (b : Below w.heap.size w w') : OwnO_B w' v n L := h.kept fun k hk _ => b.block k hk
theorem OwnO_B.congr {w : World} {v : Value} {n : Nat} {L M : Nat → Nat → Int} (h : OwnO_B w v n L) (e : ∀ i, i < n → ∀ j, j < 10 → L i j = M i j) : OwnO_B w v n M := by
  unfold OwnO_B at *; rw [← outc_congr_B e]; exact h
theorem OwnO_B.form {w : World} {v : Value} {n : Nat} {L : Nat → Nat → Int} (h : OwnO_B w v n L) :
    (n = 0 ∧ v = .slice none 0 0) ∨ ∃ g cp, v = .slice (some ⟨g, 0, none⟩) n cp ∧ g < w.heap.size ∧ n ≤ cp ∧ ∀ i, i < n → ∀ j, j < 10 → w.cell? ⟨g, i * 10 + j, none⟩ = some (.int .i64 (L i j)) := by
  rcases h.2 with ⟨hv, h0⟩ | ⟨g, cap, cur, rfl, hb, hgg, h1, h2, h3, h4⟩
  · exact .inl ⟨h0, hv⟩
  · refine .inr ⟨g, cap, rfl, (Array.getElem?_eq_some_iff.1 hgg).1, h1, fun j hj k hk => ?_⟩
    rw [cell_of_row w g (j * 10 + k) cur 46 (0, 0) hgg]
    have hh := outc_get_B (L := L) hj k hk
    rw [← h4, List.getElem?_take] at hh
    split at hh
    · simpa using hh
    · cases hh
theorem OwnO_B.lt {w : World} {v : Value} {n : Nat} {L : Nat → Nat → Int} (h : OwnO_B w v n L) {g : Nat} (e : v.ownBlock = some g) : g < w.heap.size := (World.ownsRow.lt h g e).2
/-- A new one behind the others. -/
theorem info_Out_B : ∃ i, Tryz.prog.info? 46 = some i ∧ i.zero = some (.agg (arrv 10 (fun _ => 0))) ∧ i.size = 10 ∧ i.bytes = 80 := by
  have h : (Tryz.prog.info? 46).map (fun i => (i.zero, i.size, i.bytes)) = some (some (.agg (arrv 10 (fun _ => 0))), 10, 80) := by kernel_rfl
  cases e : Tryz.prog.info? 46 with
  | none => rw [e] at h; cases h
  | some i => rw [e] at h; simp at h; exact ⟨i, rfl, h.1, h.2.1, h.2.2⟩
theorem zout_B : (Value.agg (arrv 10 (fun _ => 0))).cells.size = 10 := by
  rw [show (Value.agg (arrv 10 (fun _ => 0))).cells = arrv 10 (fun _ => 0) from rfl, arrv_size]
theorem outc_app_B (n m : Nat) (L M : Nat → Nat → Int) : outc_B n L ++ outc_B m M = outc_B (n + m) (fun i => if i < n then L i else M (i - n)) := by
  apply List.ext_getElem?
  intro k
  by_cases hk : k < (n + m) * 10
  · have b := outc_get_B (L := fun i => if i < n then L i else M (i - n)) (n := n + m) (k := k / 10) (by omega) (k % 10) (by omega)
    rw [show k / 10 * 10 + k % 10 = k by omega] at b
    rw [b]
    by_cases h : k < n * 10
    · have b0 := outc_get_B (L := L) (n := n) (k := k / 10) (by omega) (k % 10) (by omega)
      rw [show k / 10 * 10 + k % 10 = k by omega] at b0
      rw [List.getElem?_append_left (by rw [outc_len_B]; omega), b0, if_pos (by omega)]
    · have b0 := outc_get_B (L := M) (n := m) (k := k / 10 - n) (by omega) (k % 10) (by omega)
      rw [show (k / 10 - n) * 10 + k % 10 = k - n * 10 by omega] at b0
      rw [List.getElem?_append_right (by rw [outc_len_B]; omega), outc_len_B, b0, if_neg (by omega)]
  · rw [List.getElem?_eq_none (by rw [List.length_append, outc_len_B, outc_len_B]; omega), List.getElem?_eq_none (by rw [outc_len_B]; omega)]
/-- append of m outputs that lie somewhere. -/
theorem run_appOut_B {w : World} {v : Value} {n : Nat} {L : Nat → Nat → Int} (hown : OwnO_B w v n L) (nb off c m : Nat) (M : Nat → Nat → Int) (hM : ∀ i, i < m → ∀ j, j < 10 → w.cell? ⟨nb, off + (i * 10 + j), none⟩ = some (.int .i64 (M i j))) (hm : 0 < m) (hn : n + m ≤ 1000000) (ty : TypeId) (H : Nat) (hH : w.heap.size = H) :
    ∃ g cap w', (Builtin.append_ #[58, 58] ty #[v, .slice (some ⟨nb, off, none⟩) m c]).run Tryz.prog w = .ok (.slice (some ⟨g, 0, none⟩) (n + m) cap) w' ∧
      OwnO_B w' (.slice (some ⟨g, 0, none⟩) (n + m) cap) (n + m) (fun i => if i < n then L i else M (i - n)) ∧ w.grownBy w' v.ownBlock ∧ (v.ownBlock = some g ∨ g = H) ∧ g < w'.heap.size := by
  obtain ⟨i, hi, hz, hs, hb⟩ := info_Out_B
  obtain ⟨g, cap, w', h1, h2, h3, h4, h5⟩ := run_append_lies (P := Tryz.prog) w 58 ty 0 46 i (.agg (arrv 10 (fun _ => 0))) 10 80 Tryz.underlying58 hi hz hs hb zout_B (by decide) v n (outc_B n L) hown ⟨nb, off, none⟩ m c (outc_B m M) (outc_len_B m M)
    (fun j u hu => by
      have hj : j < m * 10 := by have := (List.getElem?_eq_some_iff.1 hu).1; rwa [outc_len_B] at this
      have b0 := outc_get_B (L := M) (n := m) (k := j / 10) (by omega) (j % 10) (by omega)
      rw [show j / 10 * 10 + j % 10 = j by omega] at b0
      rw [b0] at hu; injection hu with hu
      rw [← hu, Addr.add_mid]
      have := hM (j / 10) (by omega) (j % 10) (by omega)
      rwa [show j / 10 * 10 + j % 10 = j by omega] at this) outc_one_B hm (by unfold maxLen; omega) (by omega) (Nat.zero_le _) H hH
  exact ⟨g, cap, w', h1, by unfold OwnO_B; rw [← outc_app_B]; exact h2, h3, h4, h5⟩
theorem fillo1_B (A : Nat → Int) (Z : Array Value) (hZ : Z = arrv 10 (fun _ => 0)) : Instr.fill (fun i => some (i * 10, 10)) Z [(0, .agg (arrv 10 A))] = some (arrv 10 A) := by
  subst hZ; kernel_rfl
theorem zrange11_B (Z : Array Value) (hZ : Z = arrv 10 (fun _ => 0)) : (Array.range (1 * 10)).map (fun i => Z[i % Z.size]!) = arrv 10 (fun _ => 0) := by
  subst hZ; kernel_rfl
theorem run_bslo1_B (A : Nat → Int) (w : World) : (Instr.buildSlice 58 1 #[(0, .agg (arrv 10 A))]).run Tryz.prog w = .ok (.slice (some ⟨w.heap.size, 0, none⟩) 1 1) (w.alloc (.cells (arrv 10 A) 46)) := by
  have hz : (zeroValue 46).run Tryz.prog w = .ok (.agg (arrv 10 (fun _ => 0))) w := by kernel_rfl
  have hs : (sizeOf 46).run Tryz.prog w = .ok 10 w := by kernel_rfl
  unfold Instr.buildSlice
  simp only [Sem.run_bind, run_underlying Tryz.underlying58, Result.andThen_ok, hs]
  rw [if_neg (by decide), if_neg (by decide)]
  have hf : Instr.fill (fun i => some (i * 10, 10)) (Array.map (fun x => (Value.agg (arrv 10 (fun _ => 0))).cells[x % (Value.agg (arrv 10 (fun _ => 0))).cells.size]!) (Array.range (1 * 10))) [(0, Value.agg (arrv 10 A))] = some (arrv 10 A) :=
    fillo1_B A _ (zrange11_B (arrv 10 (fun _ => 0)) rfl)
  simp only [Sem.run_bind, hz, Result.andThen_ok, Sem.run_pure, hf]
  simp [newRow, newObj, go_sem]
  rfl
theorem wp_bslo1_B {o : Oper} {a : Act} {w : World} {K : Act → World → Prop} {Q : Exit → Act → World → Prop} {A : Nat → Int} (x : Operand) (ho : o.op = .buildSlice 58 1 #[(0, x)])
    (hx : a.eval x = .agg (arrv 10 A)) (h : K (a.put o.dst (.slice (some ⟨w.heap.size, 0, none⟩) 1 1)) (w.alloc (.cells (arrv 10 A) 46))) : o.wp Tryz.prog a w K Q := by
  unfold Oper.wp execOp
  simp only [ho, Sem.run_bind, List.map_toArray, List.map_cons, List.map_nil, hx, run_bslo1_B A w, Result.andThen_ok]
  exact h
theorem wp_appOut_B {o : Oper} {a : Act} {w : World} {K : Act → World → Prop} {Q : Exit → Act → World → Prop} (s x : Operand)
    (ho : o.op = .call { callee := .builtin .append, args := #[s, x], argTypes := #[58, 58] })
    {v : Value} {n : Nat} {L : Nat → Nat → Int} (hs : a.eval s = v) (hown : OwnO_B w v n L) (nb c : Nat) (hx : a.eval x = .slice (some ⟨nb, 0, none⟩) 1 c) (A : Nat → Int) (hA : Blk w nb 46 10 A) (hn : n + 1 ≤ 1000000)
    (h : ∀ g cap w', OwnO_B w' (.slice (some ⟨g, 0, none⟩) (n + 1) cap) (n + 1) (fun i => if i < n then L i else A) → w.grownBy w' v.ownBlock → (v.ownBlock = some g ∨ g = w.heap.size) → K (a.put o.dst (.slice (some ⟨g, 0, none⟩) (n + 1) cap)) w') : o.wp Tryz.prog a w K Q := by
  obtain ⟨g, cap, w', hr, h1, h2, h3, h4⟩ := run_appOut_B hown nb 0 c 1 (fun _ => A) (fun i hi j hj => by
    obtain rfl : i = 0 := by omega
    rw [Nat.zero_mul, Nat.zero_add, Nat.zero_add]; exact hA.cell hj) (by omega) hn o.type _ rfl
  unfold Oper.wp execOp
  simp only [ho, resolve, invoke, builtin, Sem.run_bind, Sem.run_pure, Result.andThen_ok, List.map_toArray, List.map_cons, List.map_nil, hs, hx, hr]
  exact h g cap w' h1 h2 h3
end Go.Proofs.YtgfklheepkgedaaGreat
/- A call's own blocks as a list, where no flag is at hand. -/
namespace Go.Proofs.YtgfklheepkgedaaGreat
open Go.RowKit
open Go
set_option maxRecDepth 100000
structure BsR (E : List Lx) (top : Nat) (w wr : World) : Prop where
  below : Below w.heap.size w wr
  ex : ∀ e, e ∈ E → Blk wr e.b e.T e.n e.F ∧ w.heap.size ≤ e.b ∧ e.b < top
  lim : w.heap.size ≤ top
  le : top ≤ wr.heap.size
section
variable {E : List Lx} {top : Nat} {w wr w' : World}
theorem bs_nil (w : World) : BsR [] w.heap.size w w := ⟨Below.refl _ _, (fun e he => by cases he), Nat.le_refl _, Nat.le_refl _⟩
theorem BsR.low (s : BsR E top w wr) (u : Below top wr w') (hz : top ≤ w'.heap.size) : BsR E top w w' :=
  ⟨s.below.trans (u.mono s.lim), fun e he => ⟨(u.block _ (s.ex e he).2.2).trans (s.ex e he).1, (s.ex e he).2⟩, s.lim, hz⟩
theorem BsR.down (s : BsR E top w wr) (u : Below wr.heap.size wr w') : BsR E top w w' := s.low (u.mono s.le) (Nat.le_trans s.le u.size)
theorem BsR.drew (s : BsR E top w wr) : BsR E top w wr.drew := s.down (Below.drew (Below.refl _ _))
theorem BsR.alloc (s : BsR E top w wr) (o : Obj) : BsR E top w (wr.alloc o) := s.down ((Below.refl _ _).alloc (Nat.le_refl _) o)
theorem BsR.lay (s : BsR E top w wr) (T n : Nat) (F : Nat → Int) : BsR (⟨wr.heap.size, T, n, F⟩ :: E) (wr.heap.size + 1) w (wr.alloc (.cells (arrv n F) T)) := by
  have k := s.alloc (.cells (arrv n F) T)
  have hl := s.lim
  have hle := s.le
  refine ⟨k.below, fun e he => ?_, by omega, by simp⟩
  rcases List.mem_cons.1 he with rfl | he
  · exact ⟨Blk.new _ _ _ _, by simp only; omega, by simp⟩
  · have := k.ex e he
    exact ⟨this.1, this.2.1, by omega⟩
theorem BsR.e0 {b T n : Nat} {F : Nat → Int} (s : BsR (⟨b, T, n, F⟩ :: E) top w wr) : Blk wr b T n F := (s.ex _ (.head _)).1
theorem BsR.tail {a : Lx} (s : BsR (a :: E) top w wr) : BsR E top w wr := ⟨s.below, fun e he => s.ex e (.tail _ he), s.lim, s.le⟩
theorem BsR.e1 {a : Lx} {b T n : Nat} {F : Nat → Int} (s : BsR (a :: ⟨b, T, n, F⟩ :: E) top w wr) : Blk wr b T n F := s.tail.e0
theorem BsR.e2 {a a2 : Lx} {b T n : Nat} {F : Nat → Int} (s : BsR (a :: a2 :: ⟨b, T, n, F⟩ :: E) top w wr) : Blk wr b T n F := s.tail.e1
theorem BsR.row {b T n : Nat} {F : Nat → Int} (s : BsR (⟨b, T, n, F⟩ :: E) top w wr) (hn : ∀ e, e ∈ E → e.b ≠ b) (G : Nat → Int) : BsR (⟨b, T, n, G⟩ :: E) top w (wr.setRow b (arrv n G)) := by
  have h0 := s.ex _ (.head _)
  refine ⟨s.below.trans (below_row (Below.refl _ _) h0.2.1 _), fun e he => ?_, s.lim, by rw [setRow_size]; exact s.le⟩
  rcases List.mem_cons.1 he with rfl | he
  · exact ⟨h0.1.setRow G, h0.2⟩
  · have := s.ex e (.tail _ he)
    exact ⟨this.1.setRow_other _ (hn e he), this.2⟩
theorem BsR.sub {E' : List Lx} (s : BsR E top w wr) (hs : ∀ e, e ∈ E' → e ∈ E) : BsR E' top w wr := ⟨s.below, fun e he => s.ex e (hs e he), s.lim, s.le⟩
end
end Go.Proofs.YtgfklheepkgedaaGreat
/- Arguments that are arrays of int64 (or structs of such): opened as numbers; a slice of int64 too. Of no one program. -/
namespace Go.Proofs.YtgfklheepkgedaaGreat
open Go.RowKit Go.ChangeShapes
def AllInt (cs : List Value) : Prop := ∀ v, v ∈ cs → ∃ z, v = .int .i64 z ∧ (Lit.int .i64 z).wf = true
section
variable {H : Type} {enc : TypeId × Value → H} {P : Program} {w : World} {base : Nat} {spare : Nat → Bool} {held : Bool}
/-- What reads as t is int64 numbers alone. -/
def Ints (enc : TypeId × Value → H) (P : Program) (w : World) (base : Nat) (spare : Nat → Bool) (held : Bool) (t : TypeId) : Prop :=
  ∀ fuel cs x, DataW.trod enc P w base spare held fuel t cs = some x → AllInt cs ∧ x.2 = []
theorem ints_int {t : TypeId} (hu : P.underlying t = some (.int .i64)) : Ints enc P w base spare held t := by
  intro fuel cs x h
  obtain ⟨n, h1, h2, h3⟩ := DataW.trod_int hu h
  subst h1
  refine ⟨fun v hv => ?_, ?_⟩
  · rw [List.mem_singleton] at hv; exact ⟨n, hv, h3⟩
  · rw [h2]
theorem ints_array {t e : TypeId} {n m : Nat} (hu : P.underlying t = some (.array n e)) (hc : P.cellsOf t = n * m) (hm : P.cellsOf e = m) (he : Ints enc P w base spare held e) : Ints enc P w base spare held t := by
  intro fuel cs x h
  obtain ⟨xs, k, rfl, rfl, hl, hx, hi⟩ := DataW.trod_array hu h
  rw [hc] at hl
  rw [hm] at hi
  refine ⟨fun v hv => ?_, ?_⟩
  · obtain ⟨q, hq, rfl⟩ := List.getElem_of_mem hv
    have hm0 : 0 < m := by
      rcases Nat.eq_zero_or_pos m with h0 | h0
      · subst h0; omega
      · exact h0
    have hqm : q / m < n := by rw [Nat.div_lt_iff_lt_mul hm0]; omega
    have hh := hi (q / m) hqm
    rw [List.getElem?_eq_getElem (by omega)] at hh
    refine (he _ _ _ hh).1 _ ?_
    rw [List.mem_iff_getElem?]
    refine ⟨q % m, ?_⟩
    rw [List.getElem?_take_of_lt (Nat.mod_lt _ hm0), List.getElem?_drop, Nat.mul_comm, Nat.div_add_mod]
    exact List.getElem?_eq_getElem hq
  · show xs.flatMap (·.2) = []
    rw [List.flatMap_eq_nil_iff]
    intro y hy
    obtain ⟨q, hq, rfl⟩ := List.getElem_of_mem hy
    have hh := hi q (by omega)
    rw [List.getElem?_eq_getElem hq] at hh
    exact (he _ _ _ hh).2
/-- A struct whose fields cover its cells. -/
theorem ints_struct {t : TypeId} {fs : Array Field} {n : Nat} (hu : P.underlying t = some (.struct fs)) (hc : P.cellsOf t = n)
    (hcov : ∀ q, q < n → ∃ (j : Nat) (f : Field), fs[j]? = some f ∧ f.offset ≤ q ∧ q < f.offset + P.cellsOf f.type)
    (hI : ∀ (j : Nat) (f : Field), fs[j]? = some f → Ints enc P w base spare held f.type) : Ints enc P w base spare held t := by
  intro fuel cs x h
  obtain ⟨xs, k, rfl, rfl, hl, hx, hi⟩ := DataW.trod_struct hu h
  rw [hc] at hl
  refine ⟨fun v hv => ?_, ?_⟩
  · obtain ⟨q, hq, rfl⟩ := List.getElem_of_mem hv
    obtain ⟨j, f, hj, h1, h2⟩ := hcov q (by omega)
    have hjl : j < xs.length := by rw [hx]; exact (Array.getElem?_eq_some_iff.1 hj).1
    have g := hi j f hj
    rw [List.getElem?_eq_getElem hjl] at g
    refine (hI j f hj _ _ _ g).1 _ ?_
    rw [List.mem_iff_getElem?]
    refine ⟨q - f.offset, ?_⟩
    rw [List.getElem?_take_of_lt (by omega), List.getElem?_drop, show f.offset + (q - f.offset) = q by omega]
    exact List.getElem?_eq_getElem hq
  · show xs.flatMap (·.2) = []
    rw [List.flatMap_eq_nil_iff]
    intro y hy
    obtain ⟨q, hq, rfl⟩ := List.getElem_of_mem hy
    have hq2 : q < fs.size := by rw [← hx]; exact hq
    have g := hi q fs[q] (Array.getElem?_eq_getElem hq2)
    rw [List.getElem?_eq_getElem hq] at g
    exact (hI q _ (Array.getElem?_eq_getElem hq2) _ _ _ g).2
end
end Go.Proofs.YtgfklheepkgedaaGreat
/- The join of a law: arguments that read before the call read behind it, if nothing that was there has turned. -/
namespace Go.Proofs.YtgfklheepkgedaaGreat
open Go.ChangeShapes Go.WideShapes Go.ChangeAt Go.RowKit
theorem trodAll_stays {H : Type} {enc : TypeId × Value → H} {P : Program} (hl : laidOutB P = true) {W W' : World} (hb : Below W.heap.size W W') {sp : Nat → Bool} : ∀ {ts : List TypeId} {vs : List Value} {ds : List (DataW H)} {p : List MemPlace},
    (ts.all fun t => P.readableRec t && decide (t < P.types.size)) = true → DataW.TrodAll enc P W 0 (fun _ => true) true ts vs ds p → (∀ x ∈ p, x.block < W.heap.size) → (∀ x ∈ p, sp x.block = true) → DataW.TrodAll enc P W' 0 sp true ts vs ds p
  | [], [], [], _, _, h, _, _ => h
  | t :: ts, v :: vs, d :: ds, p, ht, h, hlt, hsp => by
    obtain ⟨q, r, h1, h2, rfl⟩ := h
    rw [List.all_cons, Bool.and_eq_true, Bool.and_eq_true, decide_eq_true_eq] at ht
    exact ⟨q, r, WideElems.Trod_stays hl ht.1.1 ht.1.2 h1 (fun x hx => hb.same (hlt x (List.mem_append_left _ hx))) (fun x hx => hsp x (List.mem_append_left _ hx)),
      trodAll_stays hl hb ht.2 h2 (fun x hx => hlt x (List.mem_append_right _ hx)) (fun x hx => hsp x (List.mem_append_right _ hx)), rfl⟩
  | [], _ :: _, _, _, _, h, _, _ => by cases ‹List (DataW H)› <;> exact h.elim
  | [], [], _ :: _, _, _, h, _, _ => h.elim
  | _ :: _, [], _, _, _, h, _, _ => by cases ‹List (DataW H)› <;> exact h.elim
  | _ :: _, _ :: _, [], _, _, h, _, _ => h.elim
/-- What a law owes behind the call: it answers true, and nothing that was there has turned. -/
theorem law_post {H : Type} {enc : TypeId × Value → H} {P : Program} {f : Func} {s : ChangeSpec} {apart fresh handsOn again : Bool} {W W' : World} {args : Array Value} {ds gs : List (DataW H)} {before : List MemPlace} {tb : TypeId}
    (hW : DataW.Whole enc P f.params.toList s.vars apart W args.toList ds gs before) (hv : s.vars = []) (hfn : s.fn H ds = { results := [.lit (.bool true)], args := ds })
    (hu : P.underlying tb = some .bool) (hr : f.resultTypes = #[tb]) (hl : laidOutB P = true) (hts : (f.params.toList.all fun t => P.readableRec t && decide (t < P.types.size)) = true) (hb : Below W.heap.size W W') :
    s.post enc P f apart fresh handsOn again W args (.bool true) W' := by
  have hlt : ∀ x ∈ before, x.block < W.heap.size := fun x hx => hW.lt x hx
  have hW0 := hW
  obtain ⟨p, q, hA, hV, rfl, hfz, hnd⟩ := hW
  rw [hv] at hV
  obtain ⟨rfl, rfl⟩ := trodVars_none hV
  rw [List.append_nil] at hlt
  have hargs : ∀ sp : Nat → Bool, (∀ x ∈ p, sp x.block = true) → DataW.TrodAll enc P W' 0 sp true f.params.toList args.toList ds p := fun sp hsp => trodAll_stays hl hb hts hA hlt hsp
  have hvars : ∀ sp : Nat → Bool, DataW.TrodVars enc P W' sp s.vars ([] : List (DataW H)) [] := fun sp => by rw [hv]; exact rfl
  have hres : ∀ (b : Nat) (sp : Nat → Bool) (hd : Bool), DataW.TrodAll enc P W' b sp hd f.resultTypes.toList ((Value.bool true).resultList f.resultTypes.size) [.lit (.bool true)] [] := fun b sp hd => by
    rw [hr]; exact trodAll_mk1 (shut_bool hu _)
  have hold : ∀ x ∈ p, (fun b => decide (b < W.heap.size)) x.block = true := fun x hx => by simpa using hlt x hx
  have hfn' : s.fn H (ds ++ []) = { results := [.lit (.bool true)], args := ds } := by rw [List.append_nil]; exact hfn
  refine ⟨ds, [], p ++ [], [], p, [], hW0, ?_, ?_, ?_, World.keptBut_mono (fun x hx => ⟨hx, ?_⟩) (hb.frame (· ∈ p ++ [])), fun _ => ?_⟩
  · rw [hfn']; exact hres _ _ _
  · rw [hfn']; exact hargs _ hold
  · rw [hfn']; exact hvars _
  · rw [List.append_nil] at hx; exact Or.inr (.inl hx)
  · refine ⟨ok_one hr rfl (okWide_bool_mk hu _), _, _, ([] ++ p) ++ [], ⟨[] ++ p, [], trodAll_append (hargs _ (fun _ _ => rfl)) (hres _ _ _), hvars _, rfl, ?_, ?_⟩, ?_⟩
    · intro b off hx
      have hin : MemPlace.cell b off ∈ p := by simpa using hx
      rw [hb.frozen (p := ⟨b, off, none⟩) (hlt _ hin)]
      exact hfz b off (by simpa using hin)
    · intro ha
      simpa using hnd ha
    · intro x hx _
      simpa using hx
section
variable {H : Type} {enc : TypeId × Value → H} {w : World} {base : Nat} {spare : Nat → Bool} {held : Bool}
theorem cells_of_size {P : Program} {t : TypeId} {n : Nat} (h : (P.info? t).map (·.size) = some n) : P.cellsOf t = n := by
  unfold Program.cellsOf
  cases e : P.info? t with
  | none => rw [e] at h; cases h
  | some i => rw [e] at h; simpa using h
theorem cells_i64 : Tryz.prog.cellsOf 2 = 1 := cells_of_size (by kernel_rfl)
theorem ints_i64 : Ints enc Tryz.prog w base spare held 2 := ints_int Tryz.underlying2
set_option maxRecDepth 100000 in
theorem cells_v3 : Tryz.prog.cellsOf 28 = 3 := cells_of_size (by kernel_rfl)
set_option maxRecDepth 100000 in
theorem ints_v3 : Ints enc Tryz.prog w base spare held 28 := ints_array (n := 3) (m := 1) Tryz.underlying28 cells_v3 cells_i64 ints_i64
set_option maxRecDepth 100000 in
theorem cells_qt : Tryz.prog.cellsOf 38 = 4 := cells_of_size (by kernel_rfl)
set_option maxRecDepth 100000 in
theorem ints_qt : Ints enc Tryz.prog w base spare held 38 := ints_array (n := 4) (m := 1) Tryz.underlying38 cells_qt cells_i64 ints_i64
theorem own_knob : ownKnob Tryz.prog.godebug = none := by kernel_rfl
theorem laid_out : laidOutB Tryz.prog = true := by kernel_rfl
end
end Go.Proofs.YtgfklheepkgedaaGreat
/- An argument that is a slice of arrays or structs of int64 numbers, opened as numbers. -/
namespace Go.Proofs.YtgfklheepkgedaaGreat
open Go.ChangeShapes Go.WideShapes Go.ChangeAt Go.RowKit
theorem open_vecs {H : Type} {enc : TypeId × Value → H} {P : Program} {w : World} {base : Nat} {spare : Nat → Bool} {held : Bool} {r : Reach} {b0 m : Nat} {t e : TypeId} {v : Value} {d : DataW H} {ps : List MemPlace} (ht : P.underlying t = some (.slice e)) (hI : Ints enc P w base spare held e) (hc : P.cellsOf e = m) (hm : 0 < m)
    (hval : Value.okWide P w r b0 t v) (hd : DataW.Trod enc P w base spare held t v d ps) :
    ∃ p n cp L, v = .slice p n cp ∧ Slc w p (m * n) L ∧ n ≤ 9223372036854775807 ∧ (∀ i, -9223372036854775808 ≤ L i ∧ L i ≤ 9223372036854775807) ∧ ∀ i, m * n ≤ i → L i = 0 := by
  obtain ⟨a, n, cp, rfl⟩ := okWide_slice ht hval
  obtain ⟨fuel, hf⟩ := hd
  have z0 : ∀ _ : Nat, (-9223372036854775808 : Int) ≤ 0 ∧ (0 : Int) ≤ 9223372036854775807 := fun _ => ⟨by omega, by omega⟩
  rcases DataW.trod_slice ht hf with ⟨h0, _⟩ | ⟨ad, len, cap, elems, rest, k, _, h0, _, hb, hl, hmx, hlen, hel, _, _⟩
  · simp [Value.cells] at h0
    obtain ⟨rfl, rfl, rfl⟩ := h0
    exact ⟨none, 0, 0, fun _ => 0, rfl, fun i hi => by simp at hi, by omega, z0, fun _ _ => rfl⟩
  · simp [Value.cells] at h0
    obtain ⟨rfl, rfl, rfl⟩ := h0
    have hmx' : n ≤ 9223372036854775807 := by unfold maxLen at hmx; omega
    have each : ∀ i, i < m * n → ∃ z : Int, w.cell? ((ad.add (i / m * m)).add (i % m)) = some (.int .i64 z) ∧ (Lit.int .i64 z).wf = true := by
      intro i hi
      have hq : i / m < n := Nat.div_lt_of_lt_mul hi
      have hh := hel (i / m) hq
      rw [List.getElem?_eq_getElem (by omega), Option.bind_eq_some_iff] at hh
      obtain ⟨cs, hcs, hy⟩ := hh
      rw [hc] at hcs
      obtain ⟨_, hcl, hce⟩ := World.cells?_some hcs
      have hr : i % m < m := Nat.mod_lt _ hm
      have hz := (hI _ _ _ hy).1 (cs[i % m]'(by omega)) (List.getElem_mem _)
      obtain ⟨z, hz1, hz2⟩ := hz
      refine ⟨z, ?_, hz2⟩
      rw [hce _ hr, List.getElem?_eq_getElem (by omega), hz1]
    rcases Nat.eq_zero_or_pos n with h0 | hpos
    · subst h0
      exact ⟨some ad, 0, cp, fun _ => 0, rfl, fun i hi => by simp at hi, by omega, z0, fun _ _ => rfl⟩
    · obtain ⟨b, off, spot⟩ := ad
      have hspot : spot = none := by
        obtain ⟨z, hz, _⟩ := each 0 (Nat.mul_pos hm hpos)
        have := World.cell?_spot hz
        simpa [Addr.add] using this
      subst hspot
      have each : ∀ i, i < m * n → ∃ z : Int, w.cell? ⟨b, off + i, none⟩ = some (.int .i64 z) ∧ (Lit.int .i64 z).wf = true := by
        intro i hi
        obtain ⟨z, hz, hw⟩ := each i hi
        rw [Go.WideShapes.add_plain, Go.WideShapes.add_plain, Nat.add_assoc, Nat.div_add_mod'] at hz
        exact ⟨z, hz, hw⟩
      refine ⟨some ⟨b, off, none⟩, n, cp, fun i => if h : i < m * n then Classical.choose (each i h) else 0, rfl, fun i hi => ⟨b, off, rfl, ?_⟩, hmx', fun i => ?_, fun i hi => dif_neg (by omega)⟩
      · simp only [dif_pos hi]
        exact (Classical.choose_spec (each i hi)).1
      · by_cases h : i < m * n
        · simp only [dif_pos h]
          exact Go.bounds_i64 (Classical.choose_spec (each i h)).2
        · simp only [dif_neg h]; exact z0 0
end Go.Proofs.YtgfklheepkgedaaGreat
/- An argument that is a jump, opened. -/
namespace Go.Proofs.YtgfklheepkgedaaGreat
open Go.ChangeShapes Go.WideShapes Go.ChangeAt Go.RowKit
section
variable {H : Type} {enc : TypeId × Value → H} {w : World} {base : Nat} {spare : Nat → Bool} {held : Bool}
set_option maxRecDepth 100000 in
theorem cells_dl : Tryz.prog.cellsOf 40 = 10 := cells_of_size (by kernel_rfl)
set_option maxRecDepth 100000 in
theorem ints_dl : Ints enc Tryz.prog w base spare held 40 := by
  refine ints_struct (n := 10) Tryz.underlying40 cells_dl (fun q hq => ?_) (fun j f hj => ?_)
  · by_cases h0 : q < 4
    · exact ⟨0, _, rfl, Nat.zero_le _, by show q < 0 + Tryz.prog.cellsOf 38; rw [cells_qt]; omega⟩
    · by_cases h1 : q < 7
      · exact ⟨1, _, rfl, by show 4 ≤ q; omega, by show q < 4 + Tryz.prog.cellsOf 28; rw [cells_v3]; omega⟩
      · exact ⟨2, _, rfl, by show 7 ≤ q; omega, by show q < 7 + Tryz.prog.cellsOf 28; rw [cells_v3]; omega⟩
  · match j, hj with
    | 0, hj => cases hj; exact ints_qt
    | 1, hj => cases hj; exact ints_v3
    | 2, hj => cases hj; exact ints_v3
    | n + 3, hj => rw [Array.getElem?_eq_none (by show 3 ≤ n + 3; omega)] at hj; cases hj
end
end Go.Proofs.YtgfklheepkgedaaGreat
