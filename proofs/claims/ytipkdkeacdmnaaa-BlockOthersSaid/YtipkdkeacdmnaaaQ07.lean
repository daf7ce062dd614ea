/- Contracts of the program's functions and plain laws, part 7: they hold for all arguments. -/
import Derived.Test.YtipkdkeacdmnaaaQ05
import Derived.Laws.CopyOwn
import Derived.Test.YtipkdkeacdmnaaaQ06
import Derived.Test.YtipkdkeacdmnaaaQ01
/- A whole row of numbers loaded or stored, inside a region that draws its order. -/
namespace Go.Proofs.Ytipkdkeacdmnaaa
open Go.RowKit
set_option maxRecDepth 100000
open Go in
theorem run_load_row {P : Program} {o : Oper} {ev : Operand → Value} {w : World} (ty : TypeId) (x : Operand) (ho : o.op = .load ty x)
    (g : Nat) (hx : ev x = .pointer (some ⟨g, 0, none⟩)) (t : TypeId) (cs : Array Value) (fr : Nat × Nat) (d : TypeDesc) (hg : w.heap[g]? = some (.cells cs t fr))
    (hu : P.underlying ty = some d) (hd : (match d with | .struct _ | .array _ _ => true | _ => false) = true) (hi : (P.info? ty).map (·.size) = some cs.size) :
    (execOp ev o).run P w = .ok (.value (.agg cs)) w := by
  unfold execOp
  simp [ho, hx, Instr.loadAt, Instr.sureAddr, Sem.run_bind, run_loadVar_row (P := P) w g t ty cs fr d hg hu hd hi]
open Go in
theorem run_storeCells_row {P : Program} {w : World} {g T n : Nat} {f : Nat → Int} (F : Nat → Int) (h : Blk w g T n f) :
    (storeCells ⟨g, 0, none⟩ (arrv n F).toList).run P w = .ok () (w.setRow g (arrv n F)) := by
  have e := run_storeCells_at (P := P) g 0 T (arrv n F).toList 0 (arrv n f) w h (by simp [arrv_size]) (fun v hv => (Array.all_eq_true'.1 (oneCell_arrv n F)) v (by simpa using hv))
  rw [e]
  congr 2
  simp only [Nat.zero_add, Nat.add_zero, List.take_zero, List.nil_append, Array.length_toList, arrv_size]
  rw [List.drop_of_length_le (by simp [arrv_size]), List.append_nil, Array.toArray_toList]
theorem icol : (Try.prog.info? 23).map (·.size) = some 24 := by kernel_rfl
/-- A slice of int64: n numbers from a pointer, or none. -/
def Slc (w : World) (p : Option Addr) (n : Nat) (L : Nat → Int) : Prop := ∀ i, i < n → ∃ b o, p = some ⟨b, o, none⟩ ∧ w.cell? ⟨b, o + i, none⟩ = some (.int .i64 (L i))
theorem Slc.below {w w' : World} {p : Option Addr} {n : Nat} {L : Nat → Int} (h : Slc w p n L) (b : Below w.heap.size w w') : Slc w' p n L := fun i hi => by
  obtain ⟨k, o, rfl, hc⟩ := h i hi
  exact ⟨k, o, rfl, (b.cell (World.block_lt_of_cell? _ _ hc)).trans hc⟩
section
open Go
end
end Go.Proofs.Ytipkdkeacdmnaaa
/- Contract of tri.New: noughts above the diagonal, the variances given, and the least variance where none is given. -/
namespace Go.Proofs.Ytipkdkeacdmnaaa
open Go.RowKit
set_option maxRecDepth 100000
def newF (n : Nat) (L : Nat → Int) : Nat → Int := fun i => if i < 276 then 0 else if i - 276 < n then varV (L (i - 276)) else 1
def newB (n : Nat) (L : Nat → Int) (i : Nat) : Bool := if i < n then varH (L i) else false
def newH (n : Nat) (L : Nat → Int) : Bool := orB (newB n L) 24
def newI (n : Nat) (L : Nat → Int) (k : Nat) : Nat → Int := fun i => if i < 276 then 0 else if i < 276 + k then (if i - 276 < n then varV (L (i - 276)) else 1) else 0
theorem new_any (c : Addr) (h : Bool) (p : Option Addr) (n cp : Nat) (L : Nat → Int) (w : World) (hc : w.cell? c = some (.bool h)) (hf : w.frozen? c = false) (hL : Slc w p n L) :
    Calls Try.prog 20 #[.pointer (some c), .slice p n cp] w fun e w' => e = .returned (.agg (arrv 300 (newF n L))) ∧ Upd c (h || newH n L) w w' := by
  have hcb := World.block_lt_of_cell? w c hc
  have HC := Lib.hid hc
  have HF := Lib.hid hf
  have HL := Lib.hid hL
  clear hc hf hL
  go_enter Try.func20, Try.ntmps20
  go_wp2_with fail
  go_loopw [7] (fun i wr => ∃ k : Nat, k ≤ 24 ∧ i = .int .i64 k ∧ Hid (Upd c (h || orB (newB n L) k) w wr ∧ Blk wr w.heap.size 25 300 (fun _ => 0) ∧ Blk wr (w.heap.size + 1) 25 300 (newI n L k))) (fun i _ => 24 - (intOf i).toNat)
  case atStart =>
    refine ⟨0, by omega, rfl, ?_, ?_, ?_⟩
    · rw [show (h || orB (newB n L) 0) = h from by simp [orB]]
      exact Upd.then (Upd.refl HC.out) (by (repeat (first | with_reducible exact Below.refl _ _ | with_reducible apply Below.drew | (with_reducible refine below_drewN ?_ _) | (with_reducible refine Below.alloc ?_ (by (try simp) <;> omega) _) | (with_reducible refine Below.setCell ?_ (by (try simp) <;> omega) _))))
    · rw [zcov]; exact (Blk.new w _ _ _).alloc _
    · rw [zcov]; exact (Blk.new1 w _ _ _ _).congr fun i hi => by simp only [newI]; split <;> first | rfl | (rw [if_neg (by omega)])
  case round =>
    obtain ⟨k, hk, rfl, R⟩ := hrel
    by_cases hlt : k < 24
    · have d1 : decide ((k : Int) < 24) = true := by simp; omega
      have b0 := R.out.2.2.cell (i := 276 + k) (by omega)
      have b1 := R.out.2.2.free (276 + k)
      by_cases hkn : k < n
      · have d2 : decide ((k : Int) < (n : Int)) = true := by simp; omega
        obtain ⟨pb, po, rfl, hcell⟩ := HL.out k hkn
        have hne : (⟨pb, po + k, none⟩ : Addr) ≠ c := fun e => by rw [e, HC.out] at hcell; cases hcell
        have hpl := World.block_lt_of_cell? _ _ hcell
        have U1 : Upd c (h || orB (newB n L) k) w (wr.setCell ⟨w.heap.size + 1, 276 + k, none⟩ (.int .i64 1)) := R.out.1.setCell (by simp) _
        have rc := U1.cellc HC.out
        have rf := (U1.frozen hcb).trans HF.out
        have hcell' : wr.cell? ⟨pb, po + k, none⟩ = some (.int .i64 (L k)) := (R.out.1.cell hpl (Ne.symm hne)).trans hcell
        have hpn : pb ≠ w.heap.size + 1 := by simp at hpl; omega
        have hcell2 : (wr.setCell ⟨w.heap.size + 1, 276 + k, none⟩ (.int .i64 1)).cell? ⟨pb, po + k, none⟩ = some (.int .i64 (L k)) := (World.cell?_setCell_other _ _ _ _ (by intro e; injection e; omega)).trans hcell'
        have CC := Lib.hid (variance_any c _ (L k) _ rc rf)
        have S0 := Lib.hid (R.out.2.2.set (276 + k) 1)
        have T0 := Lib.hid (R.out.2.1.other (a := ⟨w.heap.size + 1, 276 + k, none⟩) (by simp) (.int .i64 1))
        have HU1 := Lib.hid U1
        clear U1 rc rf hcell' R
        go_wp2_with (go_at_call 35; refine CC.out.mono ?_; rintro e w' ⟨rfl, hw'⟩; have U3 := (Upd.set c (h || orB (newB n L) k || varH (L k)) (wr.setCell ⟨w.heap.size + 1, 276 + k, none⟩ (.int .i64 1))).then (by rw [show varH (L k) = clampH (L k) 1 72057594037927936 from rfl, hw']; exact Below.refl _ _); have HU2 := Lib.hid (HU1.out.trans U3); have S2 := S0.out.upd U3 (by have := hcb; omega); have HR2 := Lib.hid (T0.out.upd U3 (by have := hcb; omega)); have c0 := S2.cell (i := 276 + k) (by omega); have c1 := S2.free (276 + k); have HS2 := Lib.hid S2; clear hw' U3 S2)
        go_roundw
        case rel =>
          refine ⟨k + 1, by omega, by go_num, ?_, HR2.out.other (by simp) _, ?_⟩
          · rw [show (h || orB (newB n L) (k + 1)) = (h || orB (newB n L) k || varH (L k)) from by simp [orB, newB, hkn, Bool.or_assoc]]
            exact HU2.out.setCell (by simp) _
          · refine (HS2.out.set _ _).congr fun i hi => ?_
            simp only [Go.Proofs.Ytipkdkeacdmnaaa.upd, newI]
            by_cases h1 : i = 276 + k
            · subst h1; rw [if_pos rfl, if_neg (by omega), if_pos (by omega), show 276 + k - 276 = k by omega, if_pos hkn]; rfl
            · rw [if_neg h1, if_neg h1]; split <;> first | rfl | (split <;> split <;> first | rfl | omega)
        case measure => simp [intOf]; omega
      · have d2 : decide ((k : Int) < (n : Int)) = false := by simp; omega
        go_wp2_with fail
        go_roundw
        case rel =>
          refine ⟨k + 1, by omega, by go_num, ?_, R.out.2.1.other (by simp) _, ?_⟩
          · rw [show (h || orB (newB n L) (k + 1)) = (h || orB (newB n L) k) from by simp [orB, newB, hkn]]
            exact R.out.1.setCell (by simp) _
          · refine (R.out.2.2.set _ _).congr fun i hi => ?_
            simp only [Go.Proofs.Ytipkdkeacdmnaaa.upd, newI]
            by_cases h1 : i = 276 + k
            · subst h1; rw [if_pos rfl, if_neg (by omega), if_pos (by omega), show 276 + k - 276 = k by omega, if_neg hkn]
            · rw [if_neg h1]; split; rfl; split <;> split <;> first | rfl | omega
        case measure => simp [intOf]; omega
    · have hk24 : k = 24 := by omega
      subst hk24
      have B0 := R.out.2.1
      have B1 := R.out.2.2
      have HB := Lib.hid R.out.1
      clear R hlt hk
      rw [show ((24 : Nat) : Int) = 24 from rfl]
      go_wp2_with (first | (refine wpList_load_row rfl 25 _ rfl (w.heap.size + 1) rfl 25 _ (0, 0) _ B1 Try.underlying25 rfl (icov.trans (by rw [arrv_size])) ?_) | (refine wpList_store_row rfl 25 _ _ rfl w.heap.size _ rfl rfl 25 _ B0 (icov.trans (by rw [arrv_size])) (by rw [arrv_size, arrv_size]) (oneCell_arrv _ _) ?_))
      refine bodyPost_ret (results_cell_row Try.results20 _ _ w.heap.size 25 (arrv 300 (newI n L 24)) (0, 0) _ rfl (setRow_heap _ _ _ _ _ _ B0) Try.underlying25 rfl (icov.trans (by rw [arrv_size]))) rfl ⟨?_, ?_⟩
      · rw [arrv_congr (g := newF n L) fun i hi => by simp only [newI, newF]; split <;> first | rfl | (rw [if_pos (by omega)])]
      · exact HB.out.then' (below_row (Below.refl _ _) (Nat.le_refl _) _)
end Go.Proofs.Ytipkdkeacdmnaaa
/- Contract of thornton.With: Step with One and the noises given. -/
namespace Go.Proofs.Ytipkdkeacdmnaaa
open Go.RowKit
set_option maxRecDepth 100000
end Go.Proofs.Ytipkdkeacdmnaaa
/- thornton.Step with One, of variances alone: the noises are added, and nothing else. No program. -/
namespace Go.Proofs.Ytipkdkeacdmnaaa
theorem orB_no {p : Nat → Bool} : ∀ {n : Nat}, (∀ i, i < n → p i = false) → orB p n = false
  | 0, _ => rfl
  | n + 1, h => by simp only [orB]; rw [orB_no fun i hi => h i (by omega), h n (by omega)]; rfl
theorem satV_0 : satV 0 = 0 := by decide
theorem satH_0 : satH 0 = false := by decide
theorem satV_one : satV 1073741824 = 1073741824 := by decide
theorem satH_one : satH 1073741824 = false := by decide
theorem rsh_mul (e : Int) : rsh (1073741824 * e) 30 = e := by
  have h2 : ((2 : Int) ^ 30) = 1073741824 := by decide
  unfold rsh rdiv
  rw [h2]
  have : (1073741824 * e).natAbs = 1073741824 * e.natAbs := by rw [Int.natAbs_mul]; rfl
  rw [this, show (1073741824 : Int).natAbs = 1073741824 from rfl]
  have e1 : (2 * (1073741824 * e.natAbs) + 1073741824) / (2 * 1073741824) = e.natAbs := by omega
  rw [e1]
  by_cases he : 0 ≤ e
  · rw [if_pos (by simp; omega)]; omega
  · rw [if_neg (by simp; omega)]; omega
theorem rsh_0 : rsh 0 30 = 0 := by decide
theorem mulV_one {e : Int} (h1 : -1152921504606846976 ≤ e) (h2 : e ≤ 1152921504606846976) : mulV 1073741824 e 30 = e := by
  unfold mulV
  rw [if_neg (by decide), satV_one, satV_id h1 h2, show (30 : Int).toNat = 30 from rfl, rsh_mul, satV_id h1 h2]
theorem mulH_one {e : Int} (h1 : -1152921504606846976 ≤ e) (h2 : e ≤ 1152921504606846976) : mulH 1073741824 e 30 = false := by
  unfold mulH
  rw [satV_one, satV_id h1 h2, show (30 : Int).toNat = 30 from rfl, rsh_mul, satH_one, satH_no h1 h2]; rfl
theorem mulV_0 (e : Int) : mulV 0 e 30 = 0 := by
  unfold mulV
  rw [if_neg (by decide), satV_0, Int.zero_mul, show (30 : Int).toNat = 30 from rfl, rsh_0, satV_0]
theorem mulH_0 {e : Int} (h1 : -1152921504606846976 ≤ e) (h2 : e ≤ 1152921504606846976) : mulH 0 e 30 = false := by
  unfold mulH
  rw [satV_0, Int.zero_mul, show (30 : Int).toNat = 30 from rfl, rsh_0, satH_no h1 h2]; decide
theorem subV_0 {a : Int} (h1 : -1152921504606846976 ≤ a) (h2 : a ≤ 1152921504606846976) : subV a 0 = a := by
  unfold subV; rw [satV_0, Int.sub_zero, satV_id h1 h2, satV_id h1 h2]
theorem subH_0 {a : Int} (h1 : -1152921504606846976 ≤ a) (h2 : a ≤ 1152921504606846976) : subH a 0 = false := by
  unfold subH; rw [satV_0, Int.sub_zero, satV_id h1 h2, satH_no h1 h2, satH_0]; rfl
theorem rdiv_0 {d : Int} (h : d ≠ 0) : rdiv 0 d = 0 := by
  unfold rdiv
  have : (2 * (0 : Int).natAbs + d.natAbs) / (2 * d.natAbs) = 0 := Nat.div_eq_of_lt (by have := Int.natAbs_pos.2 h; simp; omega)
  rw [this]
  split <;> rfl
/-- A product taken out of a sum of products. -/
theorem dotS_out (A B : Nat → Int) (a : Nat) : ∀ n, a < n → dotS A B n = dotS (upd A a 0) B n + satV (A a) * satV (B a)
  | 0, h => by omega
  | n + 1, h => by
    simp only [dotS]
    by_cases ha : a = n
    · subst ha
      have e : ∀ m, m ≤ a → dotS (upd A a 0) B m = dotS A B m := by
        intro m
        induction m with
        | zero => intro _; rfl
        | succ m ih => intro hm; simp only [dotS]; rw [ih (by omega)]; simp only [upd]; rw [if_neg (by omega)]
      rw [e a (Nat.le_refl _)]
      simp only [upd, if_pos, satV_0, Int.zero_mul]
      omega
    · rw [dotS_out A B a n (by omega)]
      simp only [upd]
      rw [if_neg (by omega : ¬ n = a)]
      omega
theorem dotS_no {A B : Nat → Int} : ∀ {n : Nat}, (∀ i, i < n → A i = 0 ∨ B i = 0) → dotS A B n = 0
  | 0, _ => rfl
  | n + 1, h => by
    simp only [dotS]
    rw [dotS_no fun i hi => h i (by omega)]
    rcases h n (by omega) with e | e <;> rw [e, satV_0] <;> simp
theorem dotB_no {A B : Nat → Int} : ∀ {n : Nat}, (∀ i, i < n → satH (A i) = false ∧ satH (B i) = false) → dotB A B n = false
  | 0, _ => rfl
  | n + 1, h => by
    simp only [dotB]
    rw [dotB_no fun i hi => h i (by omega), (h n (by omega)).1, (h n (by omega)).2]; rfl
/-- Of the products but one at a. -/
theorem dotS_1 {A B : Nat → Int} {n a : Nat} (ha : a < n) (h : ∀ i, i < n → i ≠ a → A i = 0 ∨ B i = 0) : dotS A B n = satV (A a) * satV (B a) := by
  rw [dotS_out A B a n ha, dotS_no, Int.zero_add]
  intro i hi
  by_cases e : i = a
  · left; simp [upd, e]
  · rcases h i hi e with h | h
    · left; simp [upd, e, h]
    · right; exact h
theorem dotS_2 {A B : Nat → Int} {n a b : Nat} (ha : a < n) (hb : b < n) (hab : a ≠ b) (h : ∀ i, i < n → i ≠ a → i ≠ b → A i = 0 ∨ B i = 0) : dotS A B n = satV (A a) * satV (B a) + satV (A b) * satV (B b) := by
  rw [dotS_out A B a n ha, dotS_1 hb, Int.add_comm]
  · congr 2; simp [upd, Ne.symm hab]
  · intro i hi hib
    by_cases e : i = a
    · left; simp [upd, e]
    · rcases h i hi e hib with h | h
      · left; simp [upd, e, h]
      · right; exact h
/-- The rows that are orthogonal from the start. -/
def idW (x : Nat) : Int := if x % 48 = x / 48 ∨ x % 48 = 24 + x / 48 then 1073741824 else 0
theorem idW_bd (x : Nat) : -1152921504606846976 ≤ idW x ∧ idW x ≤ 1152921504606846976 := by unfold idW; split <;> omega
theorem idW_at {i k : Nat} (hk : k < 48) : idW (i * 48 + k) = if k = i ∨ k = 24 + i then 1073741824 else 0 := by
  unfold idW
  rw [show (i * 48 + k) % 48 = k by omega, show (i * 48 + k) / 48 = i by omega]
theorem tri_le {j : Nat} (hj : j < 24) : j * (j - 1) / 2 + j ≤ 276 := by
  have : ∀ j : Fin 24, j.val * (j.val - 1) / 2 + j.val ≤ 276 := by decide
  exact this ⟨j, hj⟩
section
variable {W e : Nat → Int} (hW : ∀ x, x < 1152 → W x = idW x) (he : ∀ k, k < 48 → 0 ≤ e k ∧ e k ≤ 72057594037927936)
include hW he
theorem stY_id {j k : Nat} (hj : j < 24) (hk : k < 48) : stY W e j k = if k = j ∨ k = 24 + j then e k else 0 := by
  unfold stY
  rw [hW _ (by omega), idW_at hk]
  have := he k hk
  split
  · rw [mulV_one (by omega) (by omega)]
  · rw [mulV_0]
theorem dot_id {i j : Nat} (hi : i < 24) (hj : j < 24) : dotS (rowF 48 W i) (stY W e j) 48 = if i = j then 1073741824 * (e j + e (24 + j)) else 0 := by
  by_cases hij : i = j
  · subst hij
    have h1 := he i (by omega)
    have h2 := he (24 + i) (by omega)
    rw [if_pos rfl, dotS_2 (a := i) (b := 24 + i) (by omega) (by omega) (by omega)]
    · rw [stY_id hW he hj (by omega), stY_id hW he hj (by omega), if_pos (.inl rfl), if_pos (.inr rfl)]
      simp only [rowF]
      rw [hW _ (by omega), hW _ (by omega), idW_at (by omega), idW_at (by omega), if_pos (.inl rfl), if_pos (.inr rfl), satV_one, satV_id (by omega) (by omega), satV_id (by omega) (by omega), Int.mul_add]
    · intro k hk h1 h2
      right
      rw [stY_id hW he hj hk, if_neg (by omega)]
  · rw [if_neg hij, dotS_no]
    intro k hk
    by_cases h : k = j ∨ k = 24 + j
    · left
      simp only [rowF]
      rw [hW _ (by omega), idW_at hk, if_neg (by omega)]
    · right
      rw [stY_id hW he hj hk, if_neg h]
theorem dotB_id {i j : Nat} (hi : i < 24) (hj : j < 24) : dotB (rowF 48 W i) (stY W e j) 48 = false := by
  refine dotB_no fun k hk => ⟨?_, ?_⟩
  · simp only [rowF]
    rw [hW _ (by omega)]
    exact satH_no (idW_bd _).1 (idW_bd _).2
  · rw [stY_id hW he hj hk]
    have := he k hk
    split
    · exact satH_no (by omega) (by omega)
    · exact satH_0
variable (hs : ∀ j, j < 24 → 1 ≤ e j + e (24 + j) ∧ e j + e (24 + j) ≤ 72057594037927936)
include hs
theorem stD_id {j : Nat} (hj : j < 24) : stD W e j = e j + e (24 + j) ∧ dB W e j = false := by
  have := hs j hj
  have hd : dotV 30 (rowF 48 W j) (stY W e j) 48 = e j + e (24 + j) := by
    unfold dotV
    rw [if_neg (by decide), dot_id hW he hj hj, if_pos rfl, show (30 : Int).toNat = 30 from rfl, rsh_mul, satV_id (by omega) (by omega)]
  constructor
  · unfold stD
    rw [hd]
    unfold varV clampV
    rw [if_neg (by omega), if_neg (by omega), if_neg (by omega)]
  · unfold dB
    rw [hd]
    unfold dotH
    rw [if_neg (by decide), dotB_id hW he hj hj, dot_id hW he hj hj, if_pos rfl, show (30 : Int).toNat = 30 from rfl, rsh_mul, satH_no (by omega) (by omega)]
    unfold varH clampH
    simp; omega
theorem stU_id {i j : Nat} (hi : i < j) (hj : j < 24) : stU W e j i = 0 ∧ uB W e j i = false := by
  have hd : dotV 30 (rowF 48 W i) (stY W e j) 48 = 0 := by
    unfold dotV
    rw [if_neg (by decide), dot_id hW he (by omega) hj, if_neg (by omega), show (30 : Int).toNat = 30 from rfl, rsh_0, satV_0]
  have hD := (stD_id hW he hs hj).1
  have := hs j hj
  constructor
  · unfold stU divV byV
    rw [hd, hD, if_neg (by decide), satV_0, Int.zero_mul, satV_id (by omega) (by omega), if_neg (by omega)]
    rw [rdiv_0 (by omega), satV_0]
  · unfold uB
    rw [hd, hD]
    unfold dotH divH byH
    rw [if_neg (by decide), dotB_id hW he (by omega) hj, dot_id hW he (by omega) hj, if_neg (by omega), show (30 : Int).toNat = 30 from rfl, rsh_0, satV_0, satH_0, Int.zero_mul, satV_id (by omega) (by omega), satH_no (by omega) (by omega)]
    rw [rdiv_0 (by omega), satH_0]
    simp; omega
theorem stage_id {j : Nat} (hj : j < 24) : (∀ x, x < 1152 → elW W e j j 0 x = idW x) ∧ stageH W e j = false := by
  constructor
  · intro x hx
    unfold elW
    split
    · unfold elV
      rw [(stU_id hW he hs (by omega) hj).1, mulV_0, show x / 48 * 48 + x % 48 = x by omega, hW x hx, subV_0 (idW_bd x).1 (idW_bd x).2]
    · exact hW x hx
  · unfold stageH
    rw [(stD_id hW he hs hj).2, orB_no, orB_no]; rfl
    · intro i hi
      unfold rowB
      rw [(stU_id hW he hs hi hj).2, orB_no]; rfl
      intro k hk
      unfold elB
      rw [(stU_id hW he hs hi hj).1, mulV_0, hW _ (by omega), hW _ (by omega), mulH_0 (idW_bd _).1 (idW_bd _).2, subH_0 (idW_bd _).1 (idW_bd _).2]; rfl
    · intro k hk
      unfold yB
      have := he k hk
      rw [hW _ (by omega), idW_at hk]
      split
      · exact mulH_one (by omega) (by omega)
      · exact mulH_0 (by omega) (by omega)
theorem outI_id (O : Nat → Int) {j : Nat} (hj : j < 24) : ∀ m, m ≤ j → ∀ x, x < 300 → outI O W e j m x = if x = 276 + j then e j + e (24 + j) else if j * (j - 1) / 2 ≤ x ∧ x < j * (j - 1) / 2 + m then 0 else O x
  | 0, _, x, hx => by
    simp only [outI, upd]
    rw [(stD_id hW he hs hj).1]
    split
    · rfl
    · rw [if_neg (by omega)]
  | m + 1, hm, x, hx => by
    have ht := tri_le hj
    have hp : pl m j = j * (j - 1) / 2 + m := rfl
    simp only [outI, upd]
    rw [outI_id O hj m (by omega) x hx, (stU_id hW he hs (by omega) hj).1]
    by_cases h1 : x = pl m j
    · rw [if_pos h1, if_neg (by omega), if_pos (by omega)]
    · rw [if_neg h1]
      split
      · rfl
      · split <;> split <;> first | rfl | omega
end
theorem all_id {W e : Nat → Int} (hW : ∀ x, x < 1152 → W x = idW x) (he : ∀ k, k < 48 → 0 ≤ e k ∧ e k ≤ 72057594037927936)
    (hs : ∀ j, j < 24 → 1 ≤ e j + e (24 + j) ∧ e j + e (24 + j) ≤ 72057594037927936) : ∀ n, n ≤ 24 →
    (∀ x, x < 1152 → WN W e n x = idW x) ∧ HN W e n = false ∧ ∀ x, x < 300 → ON W e n x = if 300 - n ≤ x then e (x - 276) + e (24 + (x - 276)) else 0
  | 0, _ => ⟨hW, rfl, fun x hx => by rw [if_neg (by omega)]; rfl⟩
  | n + 1, hn => by
    obtain ⟨h1, h2, h3⟩ := all_id hW he hs n (by omega)
    have ht := tri_le (j := 23 - n) (by omega)
    have hst := stage_id h1 he hs (j := 23 - n) (by omega)
    refine ⟨hst.1, ?_, fun x hx => ?_⟩
    · simp only [HN]; rw [h2, hst.2]; rfl
    · simp only [ON]
      rw [outI_id h1 he hs _ (by omega) _ (Nat.le_refl _) x hx, h3 x hx]
      by_cases hx1 : x = 276 + (23 - n)
      · rw [if_pos hx1, if_pos (by omega), hx1, show 276 + (23 - n) - 276 = 23 - n by omega]
      · rw [if_neg hx1]
        by_cases hx2 : 300 - n ≤ x
        · rw [if_pos hx2, if_neg (by omega), if_pos (by omega)]
        · have hx3 : ¬ 300 - (n + 1) ≤ x := by omega
          rw [if_neg hx2, if_neg hx3]
          split <;> rfl

/-- A covariance of variances alone. -/
def DiagF (f : Nat → Int) : Prop := (∀ x, x < 276 → f x = 0) ∧ ∀ i, i < 24 → 1 ≤ f (276 + i) ∧ f (276 + i) ≤ 72057594037927936
theorem varV_id {a : Int} (h : 1 ≤ a) (h' : a ≤ 72057594037927936) : varV a = a ∧ varH a = false := by
  constructor
  · unfold varV clampV; rw [if_neg (by omega), if_neg (by omega), if_neg (by omega)]
  · unfold varH clampH; simp; omega
theorem qV_id {a : Int} (h : 0 ≤ a) (h' : a ≤ 72057594037927936) : qV a = a ∧ qH a = false := by
  constructor
  · unfold qV clampV; rw [if_neg (by omega), if_neg (by omega), if_neg (by omega)]
  · unfold qH clampH; simp; omega
theorem cond_diag {f : Nat → Int} (h : DiagF f) : (∀ x, x < 300 → condF f x = f x) ∧ condH f = false := by
  constructor
  · intro x hx
    unfold condF
    split
    · rename_i h1; rw [h.1 x h1, satV_0]
    · have := h.2 (x - 276) (by omega)
      rw [show 276 + (x - 276) = x by omega] at this
      exact (varV_id this.1 this.2).1
  · unfold condH
    rw [orB_no, orB_no]; rfl
    · intro i hi; rw [h.1 i hi, satH_0]
    · intro i hi; exact (varV_id (h.2 i hi).1 (h.2 i hi).2).2
theorem oneF_bd (x : Nat) : satV (oneF x) = oneF x ∧ satH (oneF x) = false := by
  unfold oneF; split
  · exact ⟨satV_one, satH_one⟩
  · exact ⟨satV_0, satH_0⟩
theorem fS_one (x : Nat) : fS oneF 24 0 x = oneF x := by
  unfold fS; split
  · exact (oneF_bd x).1
  · rfl
theorem oneF_at {i m : Nat} (hm : m < 24) : oneF (i * 24 + m) = if i = m then 1073741824 else 0 := by
  unfold oneF
  rw [show (i * 24 + m) / 24 = i by omega, show (i * 24 + m) % 24 = m by omega]
theorem colF_diag {f : Nat → Int} (h : ∀ x, x < 276 → f x = 0) {k m : Nat} (hk : k < 24) : colF f k m = if m = k then 1073741824 else 0 := by
  unfold colF uV
  have ht := tri_le hk
  by_cases e : m = k
  · rw [if_pos (by omega), if_pos e, if_pos e]
  · rw [if_neg e, if_neg e]
    split
    · rw [if_pos (by omega)]
      exact h _ (by unfold pl; omega)
    · rfl
theorem rw_diag {f : Nat → Int} (h : ∀ x, x < 276 → f x = 0) {i k : Nat} (hi : i < 24) (hk : k < 24) :
    rwV f (fS oneF 24 0) i k = (if i = k then 1073741824 else 0) ∧ rwB f (fS oneF 24 0) i k = false := by
  have hd : dotS (rowF 24 (fS oneF 24 0) i) (colF f k) 24 = if i = k then 1073741824 * 1073741824 else 0 := by
    by_cases e : i = k
    · subst e
      rw [if_pos rfl, dotS_1 (a := i) hi]
      · simp only [rowF]
        rw [fS_one, oneF_at hi, if_pos rfl, colF_diag h hi, if_pos rfl, satV_one]
      · intro m hm hmi
        left
        simp only [rowF]
        rw [fS_one, oneF_at hm, if_neg (by omega)]
    · rw [if_neg e, dotS_no]
      intro m hm
      by_cases e2 : i = m
      · right; rw [colF_diag h hk, if_neg (by omega)]
      · left; simp only [rowF]; rw [fS_one, oneF_at hm, if_neg e2]
  have hb : dotB (rowF 24 (fS oneF 24 0) i) (colF f k) 24 = false := by
    refine dotB_no fun m hm => ⟨?_, ?_⟩
    · simp only [rowF]; rw [fS_one]; exact (oneF_bd _).2
    · rw [colF_diag h hk]; split; exact satH_one; exact satH_0
  unfold rwV rwB dotV dotH
  rw [if_neg (by decide : ¬ ((30 : Int) < 0 ∨ (120 : Int) < 30)), if_neg (by decide : ¬ ((30 : Int) < 0 ∨ (120 : Int) < 30)), hb, hd, show (30 : Int).toNat = 30 from rfl]
  by_cases e : i = k
  · rw [if_pos e, if_pos e, rsh_mul]; exact ⟨satV_one, by rw [satH_one]; rfl⟩
  · rw [if_neg e, if_neg e, rsh_0]; exact ⟨satV_0, by rw [satH_0]; rfl⟩
theorem step_diag {f q : Nat → Int} (h : DiagF f) (hq : ∀ i, i < 24 → 0 ≤ q i ∧ f (276 + i) + q i ≤ 72057594037927936) :
    (∀ x, x < 300 → stepF f oneF q x = if x < 276 then 0 else f x + q (x - 276)) ∧ stepH f oneF q = false := by
  have hc := cond_diag h
  have hcu : ∀ x, x < 276 → condF f x = 0 := fun x hx => by rw [hc.1 x (by omega), h.1 x hx]
  have hW : ∀ x, x < 1152 → stepW f oneF x = idW x := by
    intro x hx
    unfold stepW rowsW idW
    split
    · rw [(rw_diag hcu (by omega) (by omega)).1]
      split <;> split <;> first | rfl | omega
    · split <;> split <;> first | rfl | omega
  have hE : ∀ k, k < 48 → stepE f q k = if k < 24 then f (276 + k) else q (k - 24) := by
    intro k hk
    unfold stepE eS
    split
    · rw [hc.1 _ (by omega)]
    · rw [if_pos (by omega)]
      have h1 := hq (k - 24) (by omega)
      have h2 := h.2 (k - 24) (by omega)
      exact (qV_id (by omega) (by omega)).1
  have hA := all_id (W := stepW f oneF) (e := stepE f q) hW (fun k hk => by
    rw [hE k hk]
    split
    · have := h.2 k (by omega); omega
    · have h1 := hq (k - 24) (by omega)
      have h2 := h.2 (k - 24) (by omega)
      omega) (fun j hj => by
    rw [hE j (by omega), hE (24 + j) (by omega), if_pos hj, if_neg (by omega), show 24 + j - 24 = j by omega]
    have h1 := hq j hj
    have h2 := h.2 j hj
    omega) 24 (Nat.le_refl _)
  constructor
  · intro x hx
    unfold stepF
    rw [hA.2.2 x hx]
    by_cases e : x < 276
    · rw [if_neg (by omega), if_pos e]
    · rw [if_pos (by omega), if_neg e, hE _ (by omega), hE _ (by omega), if_pos (by omega), if_neg (by omega), show 276 + (x - 276) = x by omega, show 24 + (x - 276) - 24 = x - 276 by omega]
  · unfold stepH
    rw [hc.2, hA.2.1]
    have h1 : loop1H q oneF 24 = false := by
      unfold loop1H
      refine orB_no fun i hi => ?_
      have h1 := hq i hi
      have h2 := h.2 i hi
      rw [(qV_id (a := q i) (by omega) (by omega)).2]
      unfold row1H
      rw [orB_no]; rfl
      intro k hk; exact (oneF_bd _).2
    have h2 : rowsH (condF f) (fS oneF 24 0) = false := by
      unfold rowsH rwH
      refine orB_no fun k hk => orB_no fun i hi => ?_
      exact (rw_diag hcu hi hk).2
    rw [h1, h2]; rfl
end Go.Proofs.Ytipkdkeacdmnaaa
/- bierman's plain laws: a row of noughts, turned signs, what is learnt is good. No program. -/
namespace Go.Proofs.Ytipkdkeacdmnaaa
theorem orB_false {p : Nat → Bool} : ∀ {n : Nat}, orB p n = false → ∀ i, i < n → p i = false
  | n + 1, h, i, hi => by
    simp only [orB, Bool.or_eq_false_iff] at h
    by_cases e : i = n
    · subst e; exact h.2
    · exact orB_false h.1 i (by omega)
theorem varV_bd (a : Int) : 1 ≤ varV a ∧ varV a ≤ 72057594037927936 := by
  unfold varV clampV; repeat' split
  all_goals omega
theorem divV_z {b : Int} (hb : satV b ≠ 0) (s : Int) : divV 0 b s = 0 := by
  unfold divV byV
  rw [if_neg hb]
  split
  · rfl
  · rw [satV_0, Int.zero_mul, rdiv_0 hb, satV_0]
section
variable {p : Nat → Int} (hU : ∀ x, x < 276 → -1152921504606846976 ≤ p x ∧ p x ≤ 1152921504606846976) (hD : ∀ i, i < 24 → 1 ≤ p (276 + i) ∧ p (276 + i) ≤ 72057594037927936) {r : Int} (hr : 1 ≤ r ∧ r ≤ 72057594037927936)
end
section
variable (p h : Nat → Int) (r : Int)
end
section
variable {p h : Nat → Int} {r : Int} (hD : ∀ i, i < 24 → 1 ≤ p (276 + i) ∧ p (276 + i) ≤ 72057594037927936) (hr : 1 ≤ r ∧ r ≤ 72057594037927936)
include hD
include hr
end
/-- What is good stays as it is. -/
theorem cond_good {f : Nat → Int} (h : condH f = false) : ∀ x, x < 300 → condF f x = f x := by
  intro x hx
  unfold condH at h
  rw [Bool.or_eq_false_iff] at h
  unfold condF
  split
  · rename_i h1
    have := orB_false h.2 x h1
    simp only [satH, clampH] at this
    simp at this
    exact satV_id (by omega) (by omega)
  · rename_i h1
    have := orB_false h.1 (x - 276) (by omega)
    simp only [varH, clampH, show 276 + (x - 276) = x by omega] at this
    simp at this
    exact (varV_id (by omega) (by omega)).1
end Go.Proofs.Ytipkdkeacdmnaaa
/- bierman's plain laws (2): one state by itself, and the flags of a row of noughts. No program. -/
namespace Go.Proofs.Ytipkdkeacdmnaaa
section
variable {p : Nat → Int} (hp : DiagF p) {k : Nat} (hk : k < 24) {r : Int} (hr : 1 ≤ r ∧ r ≤ 72057594037927936) (hd : p (276 + k) ≤ 72057594037927936)
theorem byV_bd (x d : Int) : -1152921504606846976 ≤ byV x d ∧ byV x d ≤ 1152921504606846976 := by
  unfold byV; split
  · split
    · omega
    · split <;> omega
  · exact satV_bd _
theorem divV_bd (a b s : Int) : -1152921504606846976 ≤ divV a b s ∧ divV a b s ≤ 1152921504606846976 := by
  unfold divV; split
  · omega
  · exact byV_bd _ _
end
end Go.Proofs.Ytipkdkeacdmnaaa
/- thornton.Step's answer is good. No program. -/
namespace Go.Proofs.Ytipkdkeacdmnaaa
theorem outI_good (O W e : Nat → Int) {j : Nat} (hj : j < 24) : ∀ m, m ≤ j →
    (∀ x, x < 276 → (-1152921504606846976 ≤ O x ∧ O x ≤ 1152921504606846976) → -1152921504606846976 ≤ outI O W e j m x ∧ outI O W e j m x ≤ 1152921504606846976) ∧
    (∀ i, i ≠ j → outI O W e j m (276 + i) = O (276 + i)) ∧ outI O W e j m (276 + j) = stD W e j
  | 0, _ => by
    refine ⟨fun x hx h => ?_, fun i hi => ?_, ?_⟩
    · simp only [outI, upd]; rw [if_neg (by omega)]; exact h
    · simp only [outI, upd]; rw [if_neg (by omega)]
    · simp only [outI, upd, if_true]
  | m + 1, hm => by
    obtain ⟨h1, h2, h3⟩ := outI_good O W e hj m (by omega)
    have hp := pl_lt (i := m) (j := j) (by omega) hj
    refine ⟨fun x hx h => ?_, fun i hi => ?_, ?_⟩
    · simp only [outI, upd]
      split
      · unfold stU; exact divV_bd _ _ _
      · exact h1 x hx h
    · simp only [outI, upd]; rw [if_neg (by omega)]; exact h2 i hi
    · simp only [outI, upd]; rw [if_neg (by omega)]; exact h3
theorem ON_good (W e : Nat → Int) : ∀ n, n ≤ 24 → (∀ x, x < 276 → -1152921504606846976 ≤ ON W e n x ∧ ON W e n x ≤ 1152921504606846976) ∧
    ∀ i, i < 24 → 24 - n ≤ i → 1 ≤ ON W e n (276 + i) ∧ ON W e n (276 + i) ≤ 72057594037927936
  | 0, _ => ⟨fun x _ => by simp only [ON]; omega, fun i h1 h2 => by omega⟩
  | n + 1, hn => by
    obtain ⟨h1, h2⟩ := ON_good W e n (by omega)
    obtain ⟨g1, g2, g3⟩ := outI_good (ON W e n) (WN W e n) e (j := 23 - n) (by omega) (23 - n) (Nat.le_refl _)
    refine ⟨fun x hx => by simp only [ON]; exact g1 x hx (h1 x hx), fun i hi hi2 => ?_⟩
    simp only [ON]
    by_cases e1 : i = 23 - n
    · subst e1
      rw [g3]
      unfold stD
      exact varV_bd _
    · rw [g2 i e1]; exact h2 i hi (by omega)
theorem good_of {f : Nat → Int} (h1 : ∀ x, x < 276 → -1152921504606846976 ≤ f x ∧ f x ≤ 1152921504606846976) (h2 : ∀ i, i < 24 → 1 ≤ f (276 + i) ∧ f (276 + i) ≤ 72057594037927936) : condH f = false := by
  unfold condH
  rw [orB_no, orB_no]; rfl
  · intro i hi; exact satH_no (h1 i hi).1 (h1 i hi).2
  · intro i hi; exact (varV_id (h2 i hi).1 (h2 i hi).2).2
end Go.Proofs.Ytipkdkeacdmnaaa
/- thornton.Step of variances alone, One and one number more: what comes out (plain law, 1). No program. -/
namespace Go.Proofs.Ytipkdkeacdmnaaa
def atU (f : Nat → Int) (i m : Nat) : Nat → Int := fun q => uV f i (m + q)
def atX (f : Nat → Int) (j m : Nat) : Nat → Int := fun q => mulV (uV f j (m + q)) (f (276 + (m + q))) 30
def atV (f : Nat → Int) (i j : Nat) : Int := dotV 30 (atU f i (max i j)) (atX f j (max i j)) (24 - max i j)
def atB (f : Nat → Int) (j m : Nat) : Nat → Bool := fun q => mulH (uV f j (m + q)) (f (276 + (m + q))) 30
def atH (f : Nat → Int) (i j : Nat) : Bool := orB (atB f j (max i j)) (24 - max i j) || dotH 30 (atU f i (max i j)) (atX f j (max i j)) (24 - max i j)
end Go.Proofs.Ytipkdkeacdmnaaa
/- What a run puts out, and what At tells of it. No program beyond the numbers' names. -/
namespace Go.Proofs.Ytipkdkeacdmnaaa
theorem cl_tri {j k : Nat} (hj : j < 24) (hk : k < j) : k * (k - 1) / 2 + k ≤ j * (j - 1) / 2 := by
  have : ∀ j : Fin 24, ∀ k : Fin 24, k.val < j.val → k.val * (k.val - 1) / 2 + k.val ≤ j.val * (j.val - 1) / 2 := by decide
  exact this ⟨j, hj⟩ ⟨k, by omega⟩ hk
theorem pl_ne {i j i' j' : Nat} (hi : i < j) (hj : j < 24) (hi' : i' < j') (hj' : j' < 24) (h : ¬ (i = i' ∧ j = j')) : pl i j ≠ pl i' j' := by
  unfold pl
  by_cases e : j = j'
  · subst e; omega
  · by_cases e2 : j < j'
    · have := cl_tri hj' e2; omega
    · have := cl_tri hj (show j' < j by omega); omega
theorem outI_u (O W e : Nat → Int) {j : Nat} (hj : j < 24) {i l : Nat} (hi : i < l) (hl : l < 24) : ∀ m, m ≤ j → outI O W e j m (pl i l) = if l = j ∧ i < m then stU W e j i else O (pl i l)
  | 0, _ => by
    have := pl_lt (i := i) (j := l) hi hl
    simp only [outI, upd]
    rw [if_neg (by omega), if_neg (by omega)]
  | m + 1, hm => by
    have ih := outI_u O W e hj hi hl m (by omega)
    simp only [outI, upd]
    by_cases h : i = m ∧ l = j
    · obtain ⟨rfl, rfl⟩ := h
      rw [if_pos rfl, if_pos (by omega)]
    · rw [if_neg (pl_ne hi hl (by omega) hj h), ih]
      by_cases h2 : l = j ∧ i < m
      · rw [if_pos h2, if_pos (by omega)]
      · rw [if_neg h2, if_neg (by omega)]
theorem ON_vals (W e : Nat → Int) : ∀ n, n ≤ 24 → (∀ j, 24 - n ≤ j → j < 24 → ON W e n (276 + j) = DD W e (23 - j)) ∧ ∀ i l, i < l → 24 - n ≤ l → l < 24 → ON W e n (pl i l) = UU W e i (23 - l)
  | 0, _ => ⟨fun j h1 h2 => by omega, fun i l _ h1 h2 => by omega⟩
  | n + 1, hn => by
    obtain ⟨h1, h2⟩ := ON_vals W e n (by omega)
    obtain ⟨_, g2, g3⟩ := outI_good (ON W e n) (WN W e n) e (j := 23 - n) (by omega) (23 - n) (Nat.le_refl _)
    refine ⟨fun j hj hj2 => ?_, fun i l hi hl hl2 => ?_⟩
    · simp only [ON]
      by_cases e1 : j = 23 - n
      · subst e1
        rw [g3, show 23 - (23 - n) = n by omega]; rfl
      · rw [g2 j e1]; exact h1 j (by omega) hj2
    · simp only [ON]
      rw [outI_u (ON W e n) (WN W e n) e (by omega) hi hl2 (23 - n) (Nat.le_refl _)]
      by_cases e1 : l = 23 - n
      · subst e1
        rw [if_pos ⟨rfl, hi⟩, show 23 - (23 - n) = n by omega]; rfl
      · rw [if_neg (by omega)]; exact h2 i l hi (by omega) hl2
theorem sg_shift (f : Nat → Int) : ∀ n, sg f (n + 1) = f 0 + sg (fun k => f (k + 1)) n
  | 0 => by simp [sg]
  | n + 1 => by
    have h := sg_shift f n
    show sg f (n + 1) + f (n + 1) = f 0 + (sg (fun k => f (k + 1)) n + f (n + 1))
    omega
theorem sg_rev (f : Nat → Int) : ∀ n, sg f n = sg (fun k => f (n - 1 - k)) n
  | 0 => rfl
  | n + 1 => by
    rw [sg_shift (fun k => f (n + 1 - 1 - k))]
    show sg f n + f n = _
    rw [sg_rev f n]
    have : sg (fun k => f (n + 1 - 1 - (k + 1))) n = sg (fun k => f (n - 1 - k)) n := sg_congr fun k _ => by congr 1; omega
    rw [this]
    simp only [Nat.add_sub_cancel, Nat.sub_zero]
    omega
/-- At's rounded sum, told by the exact one. -/
theorem at_err {u x d : Nat → Int} {n : Nat} {B T : Int} (hu : ∀ q, q < n → ab (u q) ≤ B) (hx : ∀ q, q < n → SB (u q) ∧ SB (x q) ∧ SB (d q) ∧ SB (rsh (x q * d q) 30)) (hB : (n : Int) * B ≤ T) (hs : ab (sg (fun q => u q * x q * d q) n) ≤ 1152921504606846976 * 1000000000000000 - 1073741824 * T) :
    ab (1152921504606846976 * dotV 30 u (fun q => mulV (x q) (d q) 30) n - sg (fun q => u q * x q * d q) n) ≤ 536870912 * T + 576460752303423488 ∧ dotH 30 u (fun q => mulV (x q) (d q) 30) n = false ∧ (∀ q, q < n → mulH (x q) (d q) 30 = false) := by
  have hm : ∀ q, q < n → mulV (x q) (d q) 30 = rsh (x q * d q) 30 ∧ mulH (x q) (d q) 30 = false := fun q hq => mulV_of (hx q hq).2.1 (hx q hq).2.2.1 (hx q hq).2.2.2
  have e1 : 1073741824 * sg (fun q => u q * mulV (x q) (d q) 30) n = sg (fun q => (1073741824 * rsh (x q * d q) 30 - x q * d q) * u q) n + sg (fun q => u q * x q * d q) n := by
    rw [← sg_mul, ← sg_add]
    exact sg_congr fun q hq => by rw [(hm q hq).1]; grind
  have b1 : ∀ q, q < n → ab (1073741824 * rsh (x q * d q) 30 - x q * d q) ≤ 536870912 := fun q _ => by have := rsh_two (x q * d q); omega
  have b2 := sg_bd (y := u) b1
  have b3 := sg_le (f := fun q => ab (u q)) (g := fun _ => B) (n := n) hu
  rw [sg_const] at b3
  have hsb : SB (rsh (sg (fun q => u q * mulV (x q) (d q) 30) n) 30) := by
    have := rsh_err (sg (fun q => u q * mulV (x q) (d q) 30) n)
    have c1 := ab_bd (sg (fun q => (1073741824 * rsh (x q * d q) 30 - x q * d q) * u q) n)
    have c2 := ab_bd (sg (fun q => u q * x q * d q) n)
    have c3 := sg_nonneg (f := fun q => ab (u q)) (n := n) fun q _ => (ab_bd _).1
    unfold SB
    omega
  have dv := dotV_sg (A := u) (B := fun q => mulV (x q) (d q) 30) (n := n) (fun q hq => ⟨(hx q hq).1, by rw [(hm q hq).1]; exact (hx q hq).2.2.2⟩) hsb
  refine ⟨?_, dv.2, fun q hq => (hm q hq).2⟩
  rw [dv.1]
  have := rsh_err (sg (fun q => u q * mulV (x q) (d q) 30) n)
  have c1 := ab_bd (sg (fun q => (1073741824 * rsh (x q * d q) 30 - x q * d q) * u q) n)
  exact le_ab (by omega)
/-- The numbers of a run, and of At. -/
structure RunO (W e f : Nat → Int) : Prop where
  d : ∀ j, j < 24 → f (276 + j) = DD W e (23 - j)
  u : ∀ i l, i < l → l < 24 → f (pl i l) = UU W e i (23 - l)
theorem run_o (W e : Nat → Int) : RunO W e (ON W e 24) := by
  have h := ON_vals W e 24 (Nat.le_refl _)
  exact ⟨fun j hj => h.1 j (by omega) hj, fun i l hi hl => h.2 i l hi (by omega) hl⟩
end Go.Proofs.Ytipkdkeacdmnaaa
/- The covariance that factors tell: exactly, by At, by a run. No program beyond the numbers' names. -/
namespace Go.Proofs.Ytipkdkeacdmnaaa
/-- A number of the covariance, exactly (in units of 2^-60). -/
def PP (f : Nat → Int) (k m : Nat) : Int := sg (fun p => uV f k p * uV f m p * f (276 + p)) 24
theorem PP_comm (f : Nat → Int) (k m : Nat) : PP f k m = PP f m k := sg_congr fun p _ => by rw [Int.mul_comm (uV f k p)]
theorem sg_tail {g : Nat → Int} {m : Nat} : ∀ {n : Nat}, m ≤ n → (∀ p, p < m → g p = 0) → sg g n = sg (fun q => g (m + q)) (n - m)
  | n, h, h0 => by
    by_cases e : n = m
    · subst e; rw [Nat.sub_self, sg_zero h0]; rfl
    · obtain ⟨k, rfl⟩ : ∃ k, n = k + 1 := ⟨n - 1, by omega⟩
      have ih := sg_tail (n := k) (by omega) h0
      rw [show k + 1 - m = (k - m) + 1 by omega]
      unfold sg
      rw [ih, show m + (k - m) = k by omega]
theorem uV_low {f : Nat → Int} {a p : Nat} (h : p < a) : uV f a p = 0 := by unfold uV; rw [if_neg (by omega), if_neg (by omega)]
theorem uV_self (f : Nat → Int) (a : Nat) : uV f a a = 1073741824 := by unfold uV; rw [if_pos rfl]
theorem uV_up {f : Nat → Int} {a p : Nat} (h : a < p) : uV f a p = f (pl a p) := by unfold uV; rw [if_neg (by omega), if_pos h]
theorem at_pp {f : Nat → Int} {i j : Nat} {B : Int} (hi : i < 24) (hj : j < 24) (hB : ∀ a p, a < 24 → p < 24 → ab (uV f a p) ≤ B) (hB2 : B ≤ 56908316672) (hd : ∀ p, p < 24 → 0 ≤ f (276 + p) ∧ f (276 + p) ≤ 43980465190000)
    (hs : ab (PP f i j) ≤ 1150000000000000000000000000000000) : ab (1152921504606846976 * atV f i j - PP f i j) ≤ 12884901888 * B + 576460752303423488 ∧ atH f i j = false := by
  have hm : max i j < 24 := by omega
  have b0 : 0 ≤ B := Int.le_trans (ab_bd _).1 (hB 0 0 (by decide) (by decide))
  have e1 : PP f i j = sg (fun q => atU f i (max i j) q * uV f j (max i j + q) * f (276 + (max i j + q))) (24 - max i j) := by
    unfold PP
    rw [sg_tail (m := max i j) (by omega) fun p hp => ?_]
    · rfl
    · by_cases h : p < i
      · rw [uV_low h, Int.zero_mul, Int.zero_mul]
      · rw [uV_low (show p < j by omega), Int.mul_zero, Int.zero_mul]
  have hx : ∀ q, q < 24 - max i j → SB (atU f i (max i j) q) ∧ SB (uV f j (max i j + q)) ∧ SB (f (276 + (max i j + q))) ∧ SB (rsh (uV f j (max i j + q) * f (276 + (max i j + q))) 30) := by
    intro q hq
    have h1 := hB i (max i j + q) hi (by omega)
    have h2 := hB j (max i j + q) hj (by omega)
    have h3 := hd (max i j + q) (by omega)
    refine ⟨sb_ab h1 (by omega), sb_ab h2 (by omega), by unfold SB; omega, sb_ab (rsh_ab (m := 2330964655070000) ?_) (by decide)⟩
    rw [ab_mul]
    exact Int.le_trans (Int.mul_le_mul (Int.le_trans h2 hB2) (show ab (f (276 + (max i j + q))) ≤ 43980465190000 from le_ab (by omega)) (ab_bd _).1 (by decide)) (by decide)
  have h := at_err (T := 24 * B) (fun q hq => hB i (max i j + q) hi (by omega)) hx (Int.mul_le_mul_of_nonneg_right (by omega) b0) (by
    have : sg (fun q => uV f i (max i j + q) * uV f j (max i j + q) * f (276 + (max i j + q))) (24 - max i j) = PP f i j := e1.symm
    rw [this]; omega)
  have e2 : sg (fun q => uV f i (max i j + q) * uV f j (max i j + q) * f (276 + (max i j + q))) (24 - max i j) = PP f i j := e1.symm
  rw [e2] at h
  refine ⟨?_, ?_⟩
  · have : atV f i j = dotV 30 (fun q => uV f i (max i j + q)) (fun q => mulV (uV f j (max i j + q)) (f (276 + (max i j + q))) 30) (24 - max i j) := rfl
    rw [this]
    omega
  · unfold atH
    have : dotH 30 (atU f i (max i j)) (atX f j (max i j)) (24 - max i j) = false := h.2.1
    rw [this, cl_orB (p := atB f j (max i j)) fun q hq => h.2.2 q hq]; rfl
section
variable {W e f : Nat → Int} {P : Nat → Prop} (H : RunH W e P) (O : RunO W e f)
include H O in
theorem run_small : (∀ a p, a < 24 → p < 24 → ab (uV f a p) ≤ 56908316672) ∧ ∀ p, p < 24 → 0 ≤ f (276 + p) ∧ f (276 + p) ≤ 43980465190000 := by
  refine ⟨fun a p ha hp => ?_, fun p hp => ?_⟩
  · by_cases h : p < a
    · rw [uV_low h]; decide
    · by_cases h2 : a = p
      · subst h2; rw [uV_self]; decide
      · rw [uV_up (by omega), O.u a p (by omega) hp]
        exact H.uu (by omega) (by omega)
  · have := H.dd (n := 23 - p) (by omega)
    rw [O.d p hp]; omega
include O in
theorem run_pp {i l : Nat} (hi : i ≤ l) (hl : l < 24) : PP f i l = 1073741824 * (if i = l then 1073741824 else UU W e i (23 - l)) * DD W e (23 - l) + SS W e i l (23 - l) := by
  unfold PP
  rw [sg_tail (m := l) (by omega) fun p hp => by rw [uV_low (a := l) hp, Int.mul_zero, Int.zero_mul], show 24 - l = (23 - l) + 1 by omega, sg_shift]
  have e1 : SS W e i l (23 - l) = sg (fun k => uV f i (l + (k + 1)) * uV f l (l + (k + 1)) * f (276 + (l + (k + 1)))) (23 - l) := by
    unfold SS
    rw [sg_rev]
    refine sg_congr fun k hk => ?_
    rw [uV_up (show i < l + (k + 1) by omega), uV_up (show l < l + (k + 1) by omega), O.u i _ (by omega) (by omega), O.u l _ (by omega) (by omega), O.d _ (by omega), show 23 - (l + (k + 1)) = 23 - l - 1 - k by omega]
  rw [e1, Nat.add_zero, uV_self, O.d l hl]
  by_cases h : i = l
  · rw [if_pos h, h, uV_self]
  · rw [if_neg h, uV_up (by omega), O.u i l (by omega) hl, Int.mul_comm (UU W e i (23 - l))]
include H O in
/-- What At tells of a run's factors: the weighted products of the rows. -/
theorem run_at {i l : Nat} (hi : i ≤ l) (hl : l < 24) (hd : Nrm (WN W e (23 - l)) e l) :
    ab (1152921504606846976 * atV f i l - gr (rowF 48 W i) (rowF 48 W l) e) ≤ 25 * 116056878683004400771792896 ∧ atH f i l = false ∧ ab (1152921504606846976 * atV f l i - gr (rowF 48 W i) (rowF 48 W l) e) ≤ 25 * 116056878683004400771792896 ∧ atH f l i = false := by
  have p := H.pair hi hl hd
  rw [← run_pp O hi hl] at p
  have s := run_small H O
  have g1 := H.g i (by omega)
  have g2 := H.g l hl
  have g3 := gr_two (rowF 48 W i) (rowF 48 W l) e (fun k hk => (H.he k hk).1) 1
  have q := ab_bd (2 * 1 * gr (rowF 48 W i) (rowF 48 W l) e)
  have q2 := ab_bd (PP f i l - gr (rowF 48 W i) (rowF 48 W l) e)
  have b : ab (PP f i l) ≤ 1150000000000000000000000000000000 := le_ab (by omega)
  have a1 := at_pp (by omega) hl s.1 (Int.le_refl _) s.2 b
  have a2 := at_pp (i := l) (j := i) hl (by omega) s.1 (Int.le_refl _) s.2 (by rw [PP_comm]; exact b)
  rw [PP_comm f l i] at a2
  have c1 := ab_bd (1152921504606846976 * atV f i l - PP f i l)
  have c2 := ab_bd (1152921504606846976 * atV f l i - PP f i l)
  exact ⟨le_ab (by omega), a1.2, le_ab (by omega), a2.2⟩
end
end Go.Proofs.Ytipkdkeacdmnaaa
/- thornton.Step of variances alone: place by velocity (plain law, 2): the numbers that come out. No program. -/
namespace Go.Proofs.Ytipkdkeacdmnaaa
section
variable {f : Nat → Int} (hf : DiagF f) {a b : Nat} (ha : a < 24) (hb : b < 24) (hab : a ≠ b) {t : Int} (ht : SB t)
end
end Go.Proofs.Ytipkdkeacdmnaaa
