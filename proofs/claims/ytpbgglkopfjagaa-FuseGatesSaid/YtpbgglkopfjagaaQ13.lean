/- Contracts of the program's functions and plain laws, part 13: they hold for all arguments. -/
import Derived.Test.YtpbgglkopfjagaaQ12
import Derived.Test.YtpbgglkopfjagaaQ09
/- fuse.One (4): both ways; fuse.Count. -/
namespace Go.Proofs.Ytpbgglkopfjagaa
open Go.RowKit
set_option maxRecDepth 100000
def foSt (S P O : Nat → Int) : Nat → Int := if foL P O = true then foA S P O else keepF S
def foPt (P O : Nat → Int) : Nat → Int := if foL P O = true then foQ P O else condF P
def foFl (S P O : Nat → Int) : Bool := if foL P O = true then foTH S P O else foH S P O
theorem fuone_any (c : Addr) (h : Bool) (S P O : Nat → Int) (w : World) (hc : w.cell? c = some (.bool h)) (hf : w.frozen? c = false) (hO : -9223372036854775808 ≤ O 26 ∧ O 26 ≤ 9223372036854775807) :
    Calls Try.prog 7 #[.pointer (some c), .agg (arrv 24 S), .agg (arrv 300 P), .agg (arrv 27 O)] w fun e w' =>
      e = .returned (.tuple #[.agg (arrv 24 (foSt S P O)), .agg (arrv 300 (foPt P O)), .agg (res3 (foL P O) (foY O) (foS P O))]) ∧ Upd c (h || foFl S P O) w w' := by
  by_cases hL : foL P O = true
  · have e1 : foSt S P O = foA S P O := by unfold foSt; rw [if_pos hL]
    have e2 : foPt P O = foQ P O := by unfold foPt; rw [if_pos hL]
    have e3 : foFl S P O = foTH S P O := by unfold foFl; rw [if_pos hL]
    rw [e1, e2, e3, hL]
    exact fuone_yes c h S P O w hc hf hO hL
  · have hL2 : foL P O = false := by simpa using hL
    have e1 : foSt S P O = keepF S := by unfold foSt; rw [if_neg hL]
    have e2 : foPt P O = condF P := by unfold foPt; rw [if_neg hL]
    have e3 : foFl S P O = foH S P O := by unfold foFl; rw [if_neg hL]
    rw [e1, e2, e3, hL2]
    exact fuone_no c h S P O w hc hf hO hL2
/-- All's states and factors behind the first n numbers. O: numbers of 27 each. -/
def rowO (O : Nat → Int) (n : Nat) : Nat → Int := fun i => O (n * 27 + i)
def alN (S P O : Nat → Int) : Nat → (Nat → Int) × (Nat → Int) | 0 => (S, P) | n + 1 => (foSt (alN S P O n).1 (alN S P O n).2 (rowO O n), foPt (alN S P O n).2 (rowO O n))
def alH (S P O : Nat → Int) : Nat → Bool | 0 => false | n + 1 => alH S P O n || foFl (alN S P O n).1 (alN S P O n).2 (rowO O n)
def alT (S P O : Nat → Int) (n : Nat) : Bool := foL (alN S P O n).2 (rowO O n)
def alY (O : Nat → Int) (n : Nat) : Int := foY (rowO O n)
def alV (S P O : Nat → Int) (n : Nat) : Int := foS (alN S P O n).2 (rowO O n)
/-- The cells of n results. -/
def rcells (n : Nat) (t : Nat → Bool) (y s : Nat → Int) : List Value := (List.range n).flatMap fun i => [.bool (t i), .int .i64 (y i), .int .i64 (s i)]
theorem rcells_succ (n : Nat) (t : Nat → Bool) (y s : Nat → Int) : rcells (n + 1) t y s = rcells n t y s ++ [.bool (t n), .int .i64 (y n), .int .i64 (s n)] := by
  simp [rcells, List.range_succ, List.flatMap_append]
def OwnR (w : World) (B : Nat) (v : Value) (n : Nat) (t : Nat → Bool) (y s : Nat → Int) : Prop := w.ownsRow B 36 3 v n (rcells n t y s)
theorem OwnR.nil (w : World) (B : Nat) (t : Nat → Bool) (y s : Nat → Int) : OwnR w B (.slice none 0 0) 0 t y s := World.ownsRow_nil w B 36 3
theorem OwnR.kept {w w' : World} {B : Nat} {v : Value} {n : Nat} {t : Nat → Bool} {y s : Nat → Int} (h : OwnR w B v n t y s) (hs : ∀ k, B ≤ k → k < w.heap.size → some k = v.ownBlock → w'.heap[k]? = w.heap[k]?) : OwnR w' B v n t y s := by
  refine ⟨h.1, ?_⟩
  rcases h.2 with hn | ⟨g, cap, cur, rfl, hb, hgg, rest⟩
  · exact .inl hn
  · refine .inr ⟨g, cap, cur, rfl, hb, ?_, rest⟩
    rw [hs g hb (Array.getElem?_eq_some_iff.1 hgg).1 rfl]
    exact hgg
theorem OwnR.below {w w' : World} {B : Nat} {v : Value} {n : Nat} {t : Nat → Bool} {y s : Nat → Int} (h : OwnR w B v n t y s) (b : Below w.heap.size w w') : OwnR w' B v n t y s := h.kept fun k _ hk _ => b.block k hk
theorem OwnR.alloc {w : World} {B : Nat} {v : Value} {n : Nat} {t : Nat → Bool} {y s : Nat → Int} (h : OwnR w B v n t y s) (o : Obj) : OwnR (w.alloc o) B v n t y s := h.below ((Below.refl _ _).alloc (Nat.le_refl _) o)
theorem OwnR.upd {w w' : World} {B : Nat} {v : Value} {n : Nat} {t : Nat → Bool} {y s : Nat → Int} (h : OwnR w B v n t y s) {c : Addr} {f : Bool} (u : Upd c f w w') (hc : c.block < B) : OwnR w' B v n t y s := h.kept fun k hB hk _ => u.block hk (by omega)
theorem OwnR.row {w : World} {B k : Nat} {v : Value} {n : Nat} {t : Nat → Bool} {y s : Nat → Int} (h : OwnR w B v n t y s) (cs : Array Value) (hk : k < B) : OwnR (w.setRow k cs) B v n t y s := h.kept fun j hB _ _ => Go.setRow_other w k j cs (by omega)
theorem OwnR.blk {w : World} {B : Nat} {v : Value} {n : Nat} {t : Nat → Bool} {y s : Nat → Int} (h : OwnR w B v n t y s) {g : Nat} (e : v.ownBlock = some g) : B ≤ g ∧ g < w.heap.size := by
  rcases h.2 with ⟨rfl, _⟩ | ⟨g', cap, cur, rfl, hb, hgg, _⟩
  · cases e
  · simp [Value.ownBlock] at e; subst e; exact ⟨hb, (Array.getElem?_eq_some_iff.1 hgg).1⟩
/-- As a slice: its cells. -/
theorem OwnR.slc {w : World} {B : Nat} {v : Value} {n : Nat} {t : Nat → Bool} {y s : Nat → Int} (h : OwnR w B v n t y s) :
    (n = 0 ∧ v = .slice none 0 0) ∨ ∃ g cp, v = .slice (some ⟨g, 0, none⟩) n cp ∧ B ≤ g ∧ g < w.heap.size ∧ ∀ j u, (rcells n t y s)[j]? = some u → w.cell? ⟨g, j, none⟩ = some u := by
  rcases h.2 with ⟨hv, h0⟩ | ⟨g, cap, cur, rfl, hb, hgg, h1, h2, h3, h4⟩
  · exact .inl ⟨h0, hv⟩
  · refine .inr ⟨g, cap, rfl, hb, (Array.getElem?_eq_some_iff.1 hgg).1, fun j u hj => ?_⟩
    rw [cell_of_row w g j cur 36 (0, 0) hgg]
    rw [← h4, List.getElem?_take] at hj
    split at hj
    · simpa using hj
    · cases hj
theorem rcells_get {t : Nat → Bool} {y s : Nat → Int} : ∀ {n k : Nat}, k < n → (rcells n t y s)[k * 3]? = some (.bool (t k)) ∧ (rcells n t y s)[k * 3 + 1]? = some (.int .i64 (y k)) ∧ (rcells n t y s)[k * 3 + 2]? = some (.int .i64 (s k))
  | 0, _, h => by omega
  | n + 1, k, h => by
    have hl : (rcells n t y s).length = n * 3 := by
      clear h
      induction n with
      | zero => rfl
      | succ n ih => rw [rcells_succ, List.length_append, ih]; simp; omega
    rw [rcells_succ]
    by_cases e : k = n
    · subst e
      refine ⟨?_, ?_, ?_⟩
      · rw [List.getElem?_append_right (by omega), hl, Nat.sub_self]; rfl
      · rw [List.getElem?_append_right (by omega), hl, show k * 3 + 1 - k * 3 = 1 by omega]; rfl
      · rw [List.getElem?_append_right (by omega), hl, show k * 3 + 2 - k * 3 = 2 by omega]; rfl
    · obtain ⟨a, b, c⟩ := rcells_get (t := t) (y := y) (s := s) (n := n) (k := k) (by omega)
      refine ⟨?_, ?_, ?_⟩
      · rw [List.getElem?_append_left (by omega)]; exact a
      · rw [List.getElem?_append_left (by omega)]; exact b
      · rw [List.getElem?_append_left (by omega)]; exact c
theorem info_R' : ∃ i, Try.prog.info? 36 = some i ∧ i.zero = some (.agg #[.bool false, .int .i64 0, .int .i64 0]) ∧ i.size = 3 ∧ i.bytes = 24 := by
  have h : (Try.prog.info? 36).map (fun i => (i.zero, i.size, i.bytes)) = some (some (.agg #[.bool false, .int .i64 0, .int .i64 0]), 3, 24) := by kernel_rfl
  cases e : Try.prog.info? 36 with
  | none => rw [e] at h; cases h
  | some i => rw [e] at h; simp at h; exact ⟨i, rfl, h.1, h.2.1, h.2.2⟩
theorem wpList_appR {w : World} {ops : Array Oper} {rest : List Oper} {o : Oper} {a : Act} {Q : Exit → Act → World → Prop} (hgd : o.guard = none) (s' x : Operand)
    (ho : o.op = .call { callee := .builtin .append, args := #[s', x], argTypes := #[32, 32] })
    (B : Nat) {v : Value} {n : Nat} {t : Nat → Bool} {y s : Nat → Int} (hs : a.eval s' = v) (hown : OwnR w B v n t y s) (nb c : Nat) (hx : a.eval x = .slice (some ⟨nb, 0, none⟩) 1 c)
    (hy : w.cell? ⟨nb, 0, none⟩ = some (.bool (t n)) ∧ w.cell? ⟨nb, 1, none⟩ = some (.int .i64 (y n)) ∧ w.cell? ⟨nb, 2, none⟩ = some (.int .i64 (s n))) (hn : n ≤ 1000000) (hB : B ≤ w.heap.size) (H : Nat) (hH : w.heap.size = H)
    (h : ∀ g cap w', OwnR w' B (.slice (some ⟨g, 0, none⟩) (n + 1) cap) (n + 1) t y s → w.grownBy w' v.ownBlock → (v.ownBlock = some g ∨ g = H) → g < w'.heap.size → wpList Try.prog ops Q rest (a.put o.dst (.slice (some ⟨g, 0, none⟩) (n + 1) cap)) w') : wpList Try.prog ops Q (o :: rest) a w := by
  obtain ⟨i, hi, hz, hsz, hb⟩ := info_R'
  refine wpList_append_lies w hgd s' x 32 ho B 36 i _ 3 24 Try.underlying32 hi hz hsz hb rfl (by decide) v n (rcells n t y s) hs hown ⟨nb, 0, none⟩ 1 c [.bool (t n), .int .i64 (y n), .int .i64 (s n)] hx rfl
    (fun j u hu => ?_) (fun u hu => ?_) (by decide) (by unfold maxLen; omega) (by omega) hB H hH (fun g cap w' h1 h2 h3 h4 => h g cap w' (by unfold OwnR; rw [rcells_succ]; exact h1) h2 h3 h4)
  · have hj : j < 3 := (List.getElem?_eq_some_iff.1 hu).1
    rcases (show j = 0 ∨ j = 1 ∨ j = 2 by omega) with h | h | h
    · rw [h] at hu ⊢; simp at hu; rw [← hu]; exact hy.1
    · rw [h] at hu ⊢; simp at hu; rw [← hu]; exact hy.2.1
    · rw [h] at hu ⊢; simp at hu; rw [← hu]; exact hy.2.2
  · simp at hu; rcases hu with rfl | rfl | rfl <;> rfl
end Go.Proofs.Ytpbgglkopfjagaa
/- Contracts of fuse.Count and fuse.All. -/
namespace Go.Proofs.Ytpbgglkopfjagaa
open Go.RowKit
set_option maxRecDepth 100000
def cntT (t : Nat → Bool) : Nat → Nat | 0 => 0 | n + 1 => cntT t n + (if t n = true then 1 else 0)
theorem cntT_le (t : Nat → Bool) (n : Nat) : cntT t n ≤ n := by
  induction n with
  | zero => exact Nat.le_refl _
  | succ n ih => simp only [cntT]; split <;> omega
/-- A slice of results. -/
def SlcR (w : World) (p : Option Addr) (n : Nat) (t : Nat → Bool) (y s : Nat → Int) : Prop := ∀ k, k < n → ∃ b, p = some ⟨b, 0, none⟩ ∧ w.cell? ⟨b, k * 3, none⟩ = some (.bool (t k)) ∧ w.cell? ⟨b, k * 3 + 1, none⟩ = some (.int .i64 (y k)) ∧ w.cell? ⟨b, k * 3 + 2, none⟩ = some (.int .i64 (s k))
set_option maxHeartbeats 1000000 in
theorem count_any (p : Option Addr) (n cp : Nat) (t : Nat → Bool) (y s : Nat → Int) (w : World) (hn : n ≤ 1000000) (hL : SlcR w p n t y s) :
    Calls Try.prog 8 #[.slice p n cp] w fun e w' => e = .returned (.tuple #[.int .i64 (cntT t n : Nat), .int .i64 ((n : Int) - (cntT t n : Nat))]) ∧ Below w.heap.size w w' := by
  have HL := Lib.hid hL
  clear hL
  go_enter Try.func8, Try.ntmps8
  go_wp2_with fail
  go_loopw [2, 3, 8] (fun a b i wr => ∃ k : Nat, k ≤ n ∧ i = .int .i64 k ∧ Hid (a = .int .i64 (cntT t k : Nat) ∧ b = .int .i64 ((k : Int) - (cntT t k : Nat)) ∧ Below w.heap.size w wr)) (fun _ _ i _ => n - (intOf i).toNat)
  case atStart => exact ⟨0, by omega, rfl, Lib.hid ⟨rfl, rfl, Below.refl _ _⟩⟩
  case round =>
    obtain ⟨k, hk, rfl, R⟩ := hrel
    obtain ⟨ra, rb, RB⟩ := R.out
    have RB := Lib.hid RB
    clear R
    subst ra rb
    have hct := cntT_le t k
    by_cases hlt : k < n
    · obtain ⟨b, rfl, c0, c1, c2⟩ := HL.out k hlt
      have hb := World.block_lt_of_cell? _ _ c0
      have e0 := (RB.out.cell (p := ⟨b, k * 3, none⟩) hb).trans c0
      have e1 := (RB.out.cell (p := ⟨b, k * 3 + 1, none⟩) hb).trans c1
      have e2 := (RB.out.cell (p := ⟨b, k * 3 + 2, none⟩) hb).trans c2
      have k0 : (0 : Int) ≤ (k : Int) := Int.natCast_nonneg _
      have k1 : (k : Int) < 1000000 := by omega
      have hsc : Hid (cntT t (k + 1) = cntT t k + (if t k = true then 1 else 0)) := Lib.hid rfl
      obtain ⟨ct, hct2⟩ : ∃ ct, cntT t k = ct := ⟨_, rfl⟩
      rw [hct2] at hct hsc ⊢
      obtain ⟨lf, hlf⟩ : ∃ lf : Nat, k - ct = lf := ⟨_, rfl⟩
      have hl2 : (k : Int) - (ct : Int) = (lf : Int) := by omega
      rw [hl2]
      have hlb : (lf : Int) < 1000000 := by omega
      have hlc : (0 : Int) ≤ (lf : Int) := Int.natCast_nonneg _
      have hcb : (ct : Int) < 1000000 := by omega
      have hcc : (0 : Int) ≤ (ct : Int) := Int.natCast_nonneg _
      have d1 : decide (k < n) = true := by simpa using hlt
      cases ht : t k
      all_goals
        rw [ht] at e0 hsc
        have HSC := hsc
        have HLF := Lib.hid hlf
        clear ht c0 c1 c2 hct2 hl2 hlf hsc
        go_wp2_with fail
        go_roundw
        case rel =>
          refine ⟨k + 1, by omega, by go_num, Lib.hid ⟨?_, ?_, RB.out.alloc (by have := RB.out.size; omega) _⟩⟩
          · rw [HSC.out]; simp
          · rw [HSC.out]
            have hq := HLF.out
            congr 1
            first | (rw [if_pos rfl]; omega) | (rw [if_neg (by decide)]; omega)
        case measure => simp [intOf]; omega
    · have hkn : k = n := by omega
      subst hkn
      have d1 : decide (k < k) = false := by simp
      go_wp2_with fail
      go_ret2
      exact ⟨rfl, RB.out⟩
end Go.Proofs.Ytpbgglkopfjagaa
/- Contract of fuse.All. -/
namespace Go.Proofs.Ytpbgglkopfjagaa
open Go.RowKit
set_option maxRecDepth 100000
theorem zob : (#[.int .i64 0, .int .i64 0, .int .i64 0, .int .i64 0, .int .i64 0, .int .i64 0, .int .i64 0, .int .i64 0, .int .i64 0, .int .i64 0, .int .i64 0, .int .i64 0, .int .i64 0, .int .i64 0, .int .i64 0, .int .i64 0, .int .i64 0, .int .i64 0, .int .i64 0, .int .i64 0, .int .i64 0, .int .i64 0, .int .i64 0, .int .i64 0, .int .i64 0, .int .i64 0, .int .i64 0] : Array Value) = arrv 27 (fun _ => 0) := by kernel_rfl
structure AlR (c : Addr) (h : Bool) (S P : Nat → Int) (v : Value) (n : Nat) (t : Nat → Bool) (y s : Nat → Int) (w wr : World) : Prop where
  upd : Upd c h w wr
  sB : Blk wr w.heap.size 23 24 S
  pB : Blk wr (w.heap.size + 1) 26 300 P
  r0 : Blk wr (w.heap.size + 1 + 1) 23 24 (fun _ => 0)
  r1 : Blk wr (w.heap.size + 1 + 1 + 1) 26 300 (fun _ => 0)
  own : OwnR wr (w.heap.size + 1 + 1 + 1 + 1) v n t y s
theorem AlR.upd' {c : Addr} {h h' : Bool} {S P : Nat → Int} {v : Value} {n : Nat} {t : Nat → Bool} {y s : Nat → Int} {w wr w' : World} (r : AlR c h S P v n t y s w wr) (hc : c.block < w.heap.size) (u : Upd c h' wr w') : AlR c h' S P v n t y s w w' :=
  ⟨r.upd.trans u, r.sB.upd u (by omega), r.pB.upd u (by omega), r.r0.upd u (by omega), r.r1.upd u (by omega), r.own.upd u (by omega)⟩
theorem AlR.down {c : Addr} {h : Bool} {S P : Nat → Int} {v : Value} {n : Nat} {t : Nat → Bool} {y s : Nat → Int} {w wr w' : World} (r : AlR c h S P v n t y s w wr) (u : Below wr.heap.size wr w') : AlR c h S P v n t y s w w' :=
  ⟨r.upd.then u, r.sB.below u, r.pB.below u, r.r0.below u, r.r1.below u, r.own.below u⟩
theorem AlR.rowS {c : Addr} {h : Bool} {S P : Nat → Int} {v : Value} {n : Nat} {t : Nat → Bool} {y s : Nat → Int} {w wr : World} (r : AlR c h S P v n t y s w wr) (F : Nat → Int) : AlR c h F P v n t y s w (wr.setRow w.heap.size (arrv 24 F)) :=
  ⟨r.upd.then' (below_row (Below.refl _ _) (Nat.le_refl _) _), r.sB.setRow F, r.pB.setRow_other _ (by omega), r.r0.setRow_other _ (by omega), r.r1.setRow_other _ (by omega), r.own.row _ (by omega)⟩
theorem AlR.rowP {c : Addr} {h : Bool} {S P : Nat → Int} {v : Value} {n : Nat} {t : Nat → Bool} {y s : Nat → Int} {w wr : World} (r : AlR c h S P v n t y s w wr) (F : Nat → Int) : AlR c h S F v n t y s w (wr.setRow (w.heap.size + 1) (arrv 300 F)) :=
  ⟨r.upd.then' (below_row (Below.refl _ _) (by omega) _), r.sB.setRow_other _ (by omega), r.pB.setRow F, r.r0.setRow_other _ (by omega), r.r1.setRow_other _ (by omega), r.own.row _ (by omega)⟩
theorem AlR.drew {c : Addr} {h : Bool} {S P : Nat → Int} {v : Value} {n : Nat} {t : Nat → Bool} {y s : Nat → Int} {w wr : World} (r : AlR c h S P v n t y s w wr) : AlR c h S P v n t y s w wr.drew :=
  ⟨r.upd.drew, r.sB.drew, r.pB.drew, r.r0.drew, r.r1.drew, r.own.kept fun _ _ _ _ => rfl⟩
/-- A block of its own that no other is told of is written. -/
theorem AlR.set {c : Addr} {h : Bool} {S P : Nat → Int} {v : Value} {n : Nat} {t : Nat → Bool} {y s : Nat → Int} {w wr : World} (r : AlR c h S P v n t y s w wr) {b o : Nat} (hb : w.heap.size + 1 + 1 + 1 < b) (hv : v.ownBlock ≠ some b) (x : Value) : AlR c h S P v n t y s w (wr.setCell ⟨b, o, none⟩ x) :=
  ⟨r.upd.setCell (by simp; omega) _, r.sB.other (by simp; omega) _, r.pB.other (by simp; omega) _, r.r0.other (by simp; omega) _, r.r1.other (by simp; omega) _, r.own.kept fun k _ _ e => heap_setCell_other _ _ k x (fun e2 => hv (by rw [← e, e2]))⟩
theorem AlR.grown {c : Addr} {h : Bool} {S P : Nat → Int} {v v' : Value} {n : Nat} {t : Nat → Bool} {y s : Nat → Int} {w wr w' : World} (r : AlR c h S P v n t y s w wr) (g : wr.grownBy w' v.ownBlock) (ho : OwnR w' (w.heap.size + 1 + 1 + 1 + 1) v' (n + 1) t y s) : AlR c h S P v' (n + 1) t y s w w' := by
  have hb : ∀ k, k < w.heap.size + 1 + 1 + 1 + 1 → k < wr.heap.size → w'.heap[k]? = wr.heap[k]? := fun k hk hl => g.block k hl (fun e => by have := (r.own.blk e.symm).1; omega)
  refine ⟨r.upd.then' (below_grown (Below.refl _ _) g (fun k e => by have := (r.own.blk e).1; omega) r.upd.size), ?_, ?_, ?_, ?_, ho⟩
  · exact (hb _ (by omega) r.sB.lt).trans r.sB
  · exact (hb _ (by omega) r.pB.lt).trans r.pB
  · exact (hb _ (by omega) r.r0.lt).trans r.r0
  · exact (hb _ (by omega) r.r1.lt).trans r.r1
theorem al_start (c : Addr) (h : Bool) (S P : Nat → Int) (t : Nat → Bool) (y s : Nat → Int) (w : World) (hc : w.cell? c = some (.bool h)) :
    AlR c h S P (.slice none 0 0) 0 t y s w ((((w.alloc (.cells (arrv 24 S) 23)).alloc (.cells (arrv 300 P) 26)).alloc (.cells #[.int .i64 0, .int .i64 0, .int .i64 0, .int .i64 0, .int .i64 0, .int .i64 0, .int .i64 0, .int .i64 0, .int .i64 0, .int .i64 0, .int .i64 0, .int .i64 0, .int .i64 0, .int .i64 0, .int .i64 0, .int .i64 0, .int .i64 0, .int .i64 0, .int .i64 0, .int .i64 0, .int .i64 0, .int .i64 0, .int .i64 0, .int .i64 0] 23)).alloc (.cells Try.zeroCells26 26)) := by
  rw [zvec24, zcov]
  exact ⟨Upd.then (Upd.refl hc) (by (repeat (first | with_reducible exact Below.refl _ _ | with_reducible apply Below.drew | (with_reducible refine below_drewN ?_ _) | (with_reducible refine Below.alloc ?_ (by (try simp) <;> omega) _) | (with_reducible refine Below.setCell ?_ (by (try simp) <;> omega) _)))), (((Blk.new w _ 24 _).alloc _).alloc _).alloc _, ((Blk.new1 w _ _ 300 _).alloc _).alloc _, (blk_new2 w _ _ _ 24 _).alloc _, blk_new3 w _ _ _ _ _ _, OwnR.nil _ _ _ _ _⟩
set_option maxHeartbeats 8000000 in
theorem all_anyM (c : Addr) (h : Bool) (S P O : Nat → Int) (pd n m cp : Nat) (w : World) (hc : w.cell? c = some (.bool h)) (hf : w.frozen? c = false) (hn : n ≤ 1000)
    (hD : 0 < n → n ≤ m ∧ Blk w pd 41 (27 * m) O) (hO : ∀ i, -9223372036854775808 ≤ O i ∧ O i ≤ 9223372036854775807) (q : Option Addr) (hq : 0 < n → q = some ⟨pd, 0, none⟩) :
    Calls Try.prog 6 #[.pointer (some c), .agg (arrv 24 S), .agg (arrv 300 P), .slice q n cp] w fun e w' =>
      ∃ v, e = .returned (.tuple #[.agg (arrv 24 (alN S P O n).1), .agg (arrv 300 (alN S P O n).2), v]) ∧ Upd c (h || alH S P O n) w w' ∧ OwnR w' (w.heap.size + 1 + 1 + 1 + 1) v n (alT S P O) (alY O) (alV S P O) := by
  have hcb := World.block_lt_of_cell? w c hc
  have R0 := Lib.hid (al_start c h S P (alT S P O) (alY O) (alV S P O) w hc)
  have HC := Lib.hid hc
  have HF := Lib.hid hf
  have HD := Lib.hid hD
  have HO := Lib.hid hO
  have HQ := Lib.hid hq
  clear hc hf hD hO hq
  go_enter Try.func6, Try.ntmps6
  go_upto_region 1 with fail
  generalize (((w.alloc (.cells (arrv 24 S) 23)).alloc (.cells (arrv 300 P) 26)).alloc (.cells #[.int .i64 0, .int .i64 0, .int .i64 0, .int .i64 0, .int .i64 0, .int .i64 0, .int .i64 0, .int .i64 0, .int .i64 0, .int .i64 0, .int .i64 0, .int .i64 0, .int .i64 0, .int .i64 0, .int .i64 0, .int .i64 0, .int .i64 0, .int .i64 0, .int .i64 0, .int .i64 0, .int .i64 0, .int .i64 0, .int .i64 0, .int .i64 0] 23)).alloc (.cells Try.zeroCells26 26) = W0 at *
  go_wp2_with fail
  go_loopw [11, 17] (fun v0 i wr => ∃ (k : Nat) (v : Value), k ≤ n ∧ i = .int .i64 k ∧ v = v0 ∧ Hid (AlR c (h || alH S P O k) (alN S P O k).1 (alN S P O k).2 v k (alT S P O) (alY O) (alV S P O) w wr)) (fun _ i _ => n - (intOf i).toNat)
  case atStart => exact ⟨0, _, by omega, rfl, rfl, by rw [show (h || alH S P O 0) = h from by simp [alH]]; exact R0.out⟩
  case round =>
    obtain ⟨k, v, hk, rfl, hv0, R⟩ := hrel
    subst hv0
    clear R0
    by_cases hlt : k < n
    · obtain rfl := HQ.out (by omega)
      obtain ⟨hnm, DB0⟩ := HD.out (by omega)
      have d1 : decide (k < n) = true := by simpa using hlt
      have k0 : (0 : Int) ≤ (k : Int) := Int.natCast_nonneg _
      have k1 : (k : Int) < 1000 := by omega
      have hdc : pd ≠ c.block := DB0.flag HC.out
      have DB := DB0.upd R.out.upd hdc
      obtain ⟨E, hE⟩ : ∃ E : Nat → Int, rowO O k = E := ⟨_, rfl⟩
      have hE2 : (fun i => O (k * 27 + i)) = E := hE
      obtain ⟨SS, hS⟩ : ∃ x, (alN S P O k).1 = x := ⟨_, rfl⟩
      obtain ⟨PP, hP⟩ : ∃ x, (alN S P O k).2 = x := ⟨_, rfl⟩
      obtain ⟨H1, hH1⟩ : ∃ x, (h || alH S P O k) = x := ⟨_, rfl⟩
      have HST := Lib.hid (show (alN S P O (k + 1)).1 = foSt SS PP E ∧ (alN S P O (k + 1)).2 = foPt PP E ∧ (h || alH S P O (k + 1)) = (H1 || foFl SS PP E) ∧ alT S P O k = foL PP E ∧ alY O k = foY E ∧ alV S P O k = foS PP E by
        rw [← hE, ← hS, ← hP, ← hH1]; exact ⟨rfl, rfl, by simp [alH, Bool.or_assoc], rfl, rfl, rfl⟩)
      have EO : Hid (-9223372036854775808 ≤ E 26 ∧ E 26 ≤ 9223372036854775807) := Lib.hid (by rw [← hE]; exact HO.out _)
      rw [hS, hP, hH1] at R
      have HE2 := Lib.hid hE2
      clear hE hE2 hS hP hH1 DB0
      have X1 : Blk (wr.alloc (.cells #[.int .i64 0, .int .i64 0, .int .i64 0, .int .i64 0, .int .i64 0, .int .i64 0, .int .i64 0, .int .i64 0, .int .i64 0, .int .i64 0, .int .i64 0, .int .i64 0, .int .i64 0, .int .i64 0, .int .i64 0, .int .i64 0, .int .i64 0, .int .i64 0, .int .i64 0, .int .i64 0, .int .i64 0, .int .i64 0, .int .i64 0, .int .i64 0, .int .i64 0, .int .i64 0, .int .i64 0] 41)) wr.heap.size 41 27 (fun _ => 0) := by rw [zob]; exact Blk.new _ _ 27 _
      go_upto_region 5 with (first | (refine wpList_load_sub rfl 41 _ rfl pd (k * 27) 27 rfl DB (by omega) _ Try.underlying41 rfl iob ?_; rw [HE2.out]) | (refine wpList_store_row rfl 41 _ _ rfl (wr.heap.size) _ rfl rfl 41 _ (X1) (iob.trans (by rw [arrv_size])) (by rw [arrv_size, arrv_size]) (oneCell_arrv _ _) ?_))
      have BX : Below wr.heap.size wr ((wr.alloc (.cells #[.int .i64 0, .int .i64 0, .int .i64 0, .int .i64 0, .int .i64 0, .int .i64 0, .int .i64 0, .int .i64 0, .int .i64 0, .int .i64 0, .int .i64 0, .int .i64 0, .int .i64 0, .int .i64 0, .int .i64 0, .int .i64 0, .int .i64 0, .int .i64 0, .int .i64 0, .int .i64 0, .int .i64 0, .int .i64 0, .int .i64 0, .int .i64 0, .int .i64 0, .int .i64 0, .int .i64 0] 41)).setRow wr.heap.size (arrv 27 E)) := below_row (by (repeat (first | with_reducible exact Below.refl _ _ | with_reducible apply Below.drew | (with_reducible refine below_drewN ?_ _) | (with_reducible refine Below.alloc ?_ (by (try simp) <;> omega) _) | (with_reducible refine Below.setCell ?_ (by (try simp) <;> omega) _)))) (Nat.le_refl _) _
      have K1 := Lib.hid (R.out.down BX)
      have O1 := Lib.hid (X1.setRow E)
      have hvo : Hid (∀ b, wr.heap.size ≤ b → v.ownBlock ≠ some b) := Lib.hid fun b hb e => by have := (R.out.own.blk e).2; omega
      have hwz : w.heap.size + 1 + 1 + 1 < wr.heap.size := R.out.r1.lt
      obtain ⟨ob, hob⟩ : ∃ x, wr.heap.size = x := ⟨_, rfl⟩
      generalize (wr.alloc (.cells #[.int .i64 0, .int .i64 0, .int .i64 0, .int .i64 0, .int .i64 0, .int .i64 0, .int .i64 0, .int .i64 0, .int .i64 0, .int .i64 0, .int .i64 0, .int .i64 0, .int .i64 0, .int .i64 0, .int .i64 0, .int .i64 0, .int .i64 0, .int .i64 0, .int .i64 0, .int .i64 0, .int .i64 0, .int .i64 0, .int .i64 0, .int .i64 0, .int .i64 0, .int .i64 0, .int .i64 0] 41)).setRow wr.heap.size (arrv 27 E) = W1 at *
      rw [hob] at O1 hvo hwz ⊢
      have hbl : ob < W1.heap.size := O1.out.lt
      have K2 : Hid (AlR c H1 SS PP v k (alT S P O) (alY O) (alV S P O) w (W1.alloc (.cells #[.bool false, .int .i64 0, .int .i64 0] 36))) := Lib.hid (K1.out.down ((Below.refl _ _).alloc (Nat.le_refl _) _))
      have O2 : Hid (Blk (W1.alloc (.cells #[.bool false, .int .i64 0, .int .i64 0] 36)) ob 41 27 E) := Lib.hid (O1.out.alloc _)
      have Z2 : Hid (Res (W1.alloc (.cells #[.bool false, .int .i64 0, .int .i64 0] 36)) W1.heap.size false 0 0) := Lib.hid (Res.new W1 false 0 0)
      clear hob BX X1 R DB K1 O1
      go_upto_region 6 with fail
      obtain ⟨rb, hrb⟩ : ∃ x, W1.heap.size = x := ⟨_, rfl⟩
      generalize W1.alloc (.cells #[.bool false, .int .i64 0, .int .i64 0] 36) = W2 at *
      rw [hrb] at Z2 hbl ⊢
      have hcr : rb ≠ c.block := by omega
      have S2 := K2.out.sB
      have P2 := K2.out.pB
      have O3 := O2.out
      have ON := Lib.hid (fuone_any c H1 SS PP E W2 (K2.out.upd.cellc HC.out) ((K2.out.upd.frozen hcb).trans HF.out) EO.out)
      obtain ⟨SN, hSN⟩ : ∃ x, foSt SS PP E = x := ⟨_, rfl⟩
      obtain ⟨PN, hPN⟩ : ∃ x, foPt PP E = x := ⟨_, rfl⟩
      obtain ⟨TN, hTN⟩ : ∃ x, foL PP E = x := ⟨_, rfl⟩
      obtain ⟨YN, hYN⟩ : ∃ x, foY E = x := ⟨_, rfl⟩
      obtain ⟨VN, hVN⟩ : ∃ x, foS PP E = x := ⟨_, rfl⟩
      obtain ⟨HN, hHN⟩ : ∃ x, (H1 || foFl SS PP E) = x := ⟨_, rfl⟩
      rw [hSN, hPN, hTN, hYN, hVN, hHN] at ON HST
      clear hrb O2 hSN hPN hTN hYN hVN hHN
      go_upto_region 7 with (first | (refine wpList_load_row rfl 23 _ rfl (w.heap.size) rfl 23 _ (0, 0) _ (S2) Try.underlying23 rfl (ist.trans (by rw [arrv_size])) ?_) | (refine wpList_load_row rfl 26 _ rfl (w.heap.size + 1) rfl 26 _ (0, 0) _ (P2) Try.underlying26 rfl (icov.trans (by rw [arrv_size])) ?_) | (refine wpList_load_row rfl 41 _ rfl (ob) rfl 41 _ (0, 0) _ (O3) Try.underlying41 rfl (iob.trans (by rw [arrv_size])) ?_) | (go_at_call 7; (refine ON.out.mono ?_); rintro e w3 ⟨rfl, hu3⟩; have K3 := Lib.hid (K2.out.upd' hcb hu3); have Z3 := Lib.hid (Z2.out.upd hu3 hcr); have S3 := K3.out.sB; have P4 := (K3.out.rowS SN).pB; have Z5 := (Z3.out.row (k := w.heap.size) (arrv 24 SN) (by omega)).row (k := w.heap.size + 1) (arrv 300 PN) (by omega); obtain ⟨⟨v0, v1, v2⟩, y0, y1, y2⟩ := Z5.c; have Z5 := Lib.hid Z5; (simp only [res3]); clear hu3) | (refine wpList_store_row rfl 23 _ _ rfl (w.heap.size) _ rfl rfl 23 _ (S3) (ist.trans (by rw [arrv_size])) (by rw [arrv_size, arrv_size]) (oneCell_arrv _ _) ?_) | (refine wpList_store_row rfl 26 _ _ rfl (w.heap.size + 1) _ rfl rfl 26 _ (P4) (icov.trans (by rw [arrv_size])) (by rw [arrv_size, arrv_size]) (oneCell_arrv _ _) ?_))
      have K6 := Lib.hid ((((K3.out.rowS SN).rowP PN).set (b := rb) (o := 0) (by omega) (hvo.out rb (by omega)) (.bool TN)).set (b := rb) (o := 1) (by omega) (hvo.out rb (by omega)) (.int .i64 YN) |>.set (b := rb) (o := 2) (by omega) (hvo.out rb (by omega)) (.int .i64 VN))
      have Z6 := Lib.hid (Z5.out.set3 TN YN VN)
      generalize ((((w3.setRow w.heap.size (arrv 24 SN)).setRow (w.heap.size + 1) (arrv 300 PN)).setCell ⟨rb, 0, none⟩ (.bool TN)).setCell ⟨rb, 1, none⟩ (.int .i64 YN)).setCell ⟨rb, 2, none⟩ (.int .i64 VN) = w6 at *
      clear S2 P2 O3 ON K2 Z2 K3 Z3 S3 P4 Z5 v0 v1 v2 y0 y1 y2
      obtain ⟨⟨v0, v1, v2⟩, _⟩ := Z6.out.c
      have K7 : Hid (AlR c HN SN PN v k (alT S P O) (alY O) (alV S P O) w (w6.alloc (.cells #[.bool TN, .int .i64 YN, .int .i64 VN] 36))) := Lib.hid (K6.out.down ((Below.refl _ _).alloc (Nat.le_refl _) _))
      have hw6 : w.heap.size + 1 + 1 + 1 < w6.heap.size := K6.out.r1.lt
      have HY := Lib.hid (show (w6.alloc (.cells #[.bool TN, .int .i64 YN, .int .i64 VN] 36)).cell? ⟨w6.heap.size, 0, none⟩ = some (.bool (alT S P O k)) ∧ (w6.alloc (.cells #[.bool TN, .int .i64 YN, .int .i64 VN] 36)).cell? ⟨w6.heap.size, 1, none⟩ = some (.int .i64 (alY O k)) ∧ (w6.alloc (.cells #[.bool TN, .int .i64 YN, .int .i64 VN] 36)).cell? ⟨w6.heap.size, 2, none⟩ = some (.int .i64 (alV S P O k)) by
        rw [HST.out.2.2.2.1, HST.out.2.2.2.2.1, HST.out.2.2.2.2.2]; exact (Res.new w6 TN YN VN).c.1)
      go_upto_region 8 with (first | (refine wpList_appR rfl (.tmp 30) (.tmp 32) rfl (w.heap.size + 1 + 1 + 1 + 1) rfl K7.out.own w6.heap.size 1 rfl HY.out (by omega) (by simp; omega) (w6.heap.size + 1) (by simp) ?_; intro g1 cp1 w7 hO1 hg1 hat1 hlt1; have K8 := Lib.hid (K7.out.grown hg1 hO1); clear hO1 hg1 hat1))
      clear K6 Z6 K7 HY v0 v1 v2
      go_wp2_with fail
      go_roundw
      case rel =>
        refine ⟨k + 1, _, by omega, by go_num, rfl, ?_⟩
        rw [HST.out.1, HST.out.2.1, HST.out.2.2.1]
        exact K8
      case measure => simp [intOf]; omega
    · have hkn : k = n := by omega
      have d1 : decide (k < n) = false := by simpa using hlt
      subst hkn
      have B0 := Lib.hid R.out.sB
      have B1 := Lib.hid R.out.pB
      have E0 := Lib.hid R.out.r0
      have E1 := Lib.hid R.out.r1
      obtain ⟨SN, hSN⟩ : ∃ x, (alN S P O k).1 = x := ⟨_, rfl⟩
      obtain ⟨PN, hPN⟩ : ∃ x, (alN S P O k).2 = x := ⟨_, rfl⟩
      rw [hSN] at B0
      rw [hPN] at B1
      have hwz : w.heap.size + 1 + 1 + 1 < wr.heap.size := R.out.r1.lt
      have LD := R.out.drew
      rw [hSN, hPN] at LD
      have T1 : Blk (wr.drew.setRow (w.heap.size + 1 + 1) (arrv 24 SN)) w.heap.size 23 24 SN := LD.sB.setRow_other _ (by omega)
      have T2 : Blk (wr.drew.setRow (w.heap.size + 1 + 1) (arrv 24 SN)) (w.heap.size + 1) 26 300 PN := LD.pB.setRow_other _ (by omega)
      have T4 : Blk (wr.drew.setRow (w.heap.size + 1 + 1) (arrv 24 SN)) (w.heap.size + 1 + 1 + 1) 26 300 (fun _ => 0) := LD.r1.setRow_other _ (by omega)
      have HM0 := Lib.hid (And.intro B0.out B1.out)
      have HM1 := Lib.hid (And.intro T1 T2)
      have HM2 := Lib.hid (And.intro (T1.setRow_other (k := w.heap.size + 1 + 1 + 1) (arrv 300 PN) (by omega)) (T2.setRow_other (k := w.heap.size + 1 + 1 + 1) (arrv 300 PN) (by omega)))
      have HL0 := Lib.hid LD.r0
      have HR2 := Lib.hid T4
      have D1 := Lib.hid ((LD.r0.setRow SN).setRow_other (arrv 300 PN) (show w.heap.size + 1 + 1 ≠ w.heap.size + 1 + 1 + 1 by omega))
      have D2 := Lib.hid (T4.setRow PN)
      have DU := Lib.hid ((LD.upd.then' (below_row (Below.refl _ _) (show w.heap.size ≤ w.heap.size + 1 + 1 by omega) (arrv 24 SN))).then' (below_row (Below.refl _ _) (show w.heap.size ≤ w.heap.size + 1 + 1 + 1 by omega) (arrv 300 PN)))
      have DO := Lib.hid ((LD.own.row (arrv 24 SN) (show w.heap.size + 1 + 1 < w.heap.size + 1 + 1 + 1 + 1 by omega)).row (arrv 300 PN) (show w.heap.size + 1 + 1 + 1 < w.heap.size + 1 + 1 + 1 + 1 by omega))
      clear LD T1 T2 T4 R B0 B1 E0 E1 HQ HD HO hk hlt
      go_upto_region 9 with fail
      refine wp_region_M (fun w' => Blk w' w.heap.size 23 24 SN ∧ Blk w' (w.heap.size + 1) 26 300 PN) 5 (by kernel_rfl) ?_ (fun hHeld => ?_)
      · exact HM0.out
      refine wpAnyM_take 0 (v := ?_) rfl (by kernel_rfl) (fun _ _ _ h => h) (Or.inl ⟨by rfl, ?_⟩) (by assumption) ?_
      rotate_left
      · (intro wx hSw; refine Eq.trans (run_load_row 23 (.tmp 5) (by rfl) (w.heap.size) (by rfl) _ _ _ _ (hSw.1) Try.underlying23 rfl (ist.trans (by rw [arrv_size]))) ?_; with_reducible rfl)
      (try simp only [Act.put, nA, nB, nC])
      refine wpAnyM_take 1 (v := ?_) rfl (by kernel_rfl) (fun _ _ _ h => h) (Or.inl ⟨by rfl, ?_⟩) (by assumption) ?_
      rotate_left
      · (intro wx hSw; refine Eq.trans (run_load_row 26 (.tmp 6) (by rfl) (w.heap.size + 1) (by rfl) _ _ _ _ (hSw.2) Try.underlying26 rfl (icov.trans (by rw [arrv_size]))) ?_; with_reducible rfl)
      (try simp only [Act.put, nA, nB, nC])
      refine wpAnyM_take 2 (v := ?_) rfl (by kernel_rfl) (fun _ _ _ h => h) (Or.inl ⟨by rfl, ?_⟩) (by assumption) ?_
      rotate_left
      · (intro wx hSw; (try dsimp only at hSw); go_simp; (try with_reducible rfl))
      (try simp only [Act.put, nA, nB, nC])
      refine wpAnyM_oneS 3 rfl (by kernel_rfl) (fun K hK => ?_)
      go_simp; rw [if_pos (arrv_size _ _), run_storeCells_row _ HL0.out]; go_simp
      clear hHeld
      refine hK.out _ _ ?_ (fun hHeld => ?_)
      · exact HM1.out
      clear hK K
      (try simp only [Act.put, nA, nB, nC])
      refine wpAnyM_oneS 4 rfl (by kernel_rfl) (fun K hK => ?_)
      go_simp; rw [if_pos (arrv_size _ _), run_storeCells_row _ HR2.out]; go_simp
      clear hHeld
      refine hK.out _ _ ?_ (fun hHeld => ?_)
      · exact HM2.out
      clear hK K
      (try simp only [Act.put, nA, nB, nC])
      refine wpAnyM_one 5 rfl (by kernel_rfl) (fun K hK => ?_)
      go_simp
      refine hK.out _ _ (.inl (by kernel_rfl)) (fun _ => ?_)
      clear hK K
      (try simp only [Act.put, nA, nB, nC])
      refine wpAnyM_done (by kernel_rfl) ?_ _
      go_wp2_with fail
      refine bodyPost_ret_by (results_rows2 Try.results6 _ _ (w.heap.size + 1 + 1) (w.heap.size + 1 + 1 + 1) 23 26 (arrv 24 SN) (arrv 300 PN) (0, 0) (0, 0) _ _ rfl D1.out Try.underlying23 rfl (ist.trans (by rw [arrv_size])) rfl D2.out Try.underlying26 rfl (icov.trans (by rw [arrv_size])) v rfl) rfl ⟨v, ?_, ?_, ?_⟩
      · rw [hSN, hPN]
      · exact DU.out
      · exact DO.out
theorem all_any (c : Addr) (h : Bool) (S P O : Nat → Int) (pd n cp : Nat) (w : World) (hc : w.cell? c = some (.bool h)) (hf : w.frozen? c = false) (hn : n ≤ 1000)
    (hD : 0 < n → Blk w pd 41 (27 * n) O) (hO : ∀ i, -9223372036854775808 ≤ O i ∧ O i ≤ 9223372036854775807) (q : Option Addr) (hq : 0 < n → q = some ⟨pd, 0, none⟩) :
    Calls Try.prog 6 #[.pointer (some c), .agg (arrv 24 S), .agg (arrv 300 P), .slice q n cp] w fun e w' =>
      ∃ v, e = .returned (.tuple #[.agg (arrv 24 (alN S P O n).1), .agg (arrv 300 (alN S P O n).2), v]) ∧ Upd c (h || alH S P O n) w w' ∧ OwnR w' (w.heap.size + 1 + 1 + 1 + 1) v n (alT S P O) (alY O) (alV S P O) :=
  all_anyM c h S P O pd n n cp w hc hf hn (fun h0 => ⟨Nat.le_refl _, hD h0⟩) hO q hq
end Go.Proofs.Ytpbgglkopfjagaa
/- bierman's update reads 24 numbers of the row and 300 of the factors. No program. -/
namespace Go.Proofs.Ytpbgglkopfjagaa
theorem dotB_congr {A B A' B' : Nat → Int} : ∀ {n : Nat}, (∀ i, i < n → A i = A' i ∧ B i = B' i) → dotB A B n = dotB A' B' n
  | 0, _ => rfl
  | n + 1, h => by simp only [dotB]; rw [dotB_congr fun i hi => h i (by omega), (h n (by omega)).1, (h n (by omega)).2]
theorem dotV_congr {s : Int} {A B A' B' : Nat → Int} {n : Nat} (h : ∀ i, i < n → A i = A' i ∧ B i = B' i) : dotV s A B n = dotV s A' B' n := by unfold dotV; rw [dotS_congr h]
theorem dotH_congr {s : Int} {A B A' B' : Nat → Int} {n : Nat} (h : ∀ i, i < n → A i = A' i ∧ B i = B' i) : dotH s A B n = dotH s A' B' n := by unfold dotH; rw [dotS_congr h, dotB_congr h]
theorem uV_congr {p q : Nat → Int} (hp : ∀ x, x < 300 → p x = q x) {i j : Nat} (hj : j < 24) : uV p i j = uV q i j := by
  unfold uV; split
  · rfl
  · split
    · rename_i h; exact hp _ (by have := pl_lt h hj; omega)
    · rfl
section
variable {p q h g : Nat → Int} (hp : ∀ x, x < 300 → p x = q x) (hh : ∀ i, i < 24 → h i = g i)
include hp
theorem colF_c {j : Nat} (hj : j < 24) : colF p j = colF q j := by funext m; unfold colF; split <;> first | exact uV_congr hp hj | rfl
include hh
theorem bkF_c {j : Nat} (hj : j < 24) : bkF p h j = bkF q g j ∧ bkFH p h j = bkFH q g j := by
  unfold bkF bkFH; rw [colF_c hp hj]
  exact ⟨dotV_congr fun i hi => ⟨hh i (by omega), rfl⟩, dotH_congr fun i hi => ⟨hh i (by omega), rfl⟩⟩
theorem bkV_c {j : Nat} (hj : j < 24) : bkV p h j = bkV q g j ∧ bkVH p h j = bkVH q g j := by
  unfold bkV bkVH; rw [(bkF_c hp hh hj).1, hp _ (by omega)]; exact ⟨rfl, rfl⟩
theorem bkA_c (r : Int) : ∀ {j : Nat}, j ≤ 24 → bkA p h r j = bkA q g r j
  | 0, _ => rfl
  | j + 1, hj => by simp only [bkA]; rw [bkA_c r (j := j) (by omega), (bkF_c hp hh (j := j) (by omega)).1, (bkV_c hp hh (j := j) (by omega)).1]
theorem bkS_c (r : Int) {j : Nat} (hj : j < 24) : bkS p h r j = bkS q g r j := by
  unfold bkS bkAH; rw [bkA_c hp hh r (j := j) (by omega), (bkF_c hp hh hj).1, (bkV_c hp hh hj).1, (bkF_c hp hh hj).2, (bkV_c hp hh hj).2]
theorem upX_c (r : Int) {j : Nat} (hj : j < 24) : upX p h r j = upX q g r j ∧ upXH p h r j = upXH q g r j := by
  unfold upX upXH; rw [bkA_c hp hh r (j := j) (by omega), (bkF_c hp hh hj).1]; exact ⟨rfl, rfl⟩
theorem upD_c (r : Int) {j : Nat} (hj : j < 24) : upD p h r j = upD q g r j ∧ upDH p h r j = upDH q g r j := by
  unfold upD upDH; rw [bkA_c hp hh r (j := j) (by omega), bkA_c hp hh r (j := j + 1) (by omega), hp _ (by omega)]; exact ⟨rfl, rfl⟩
theorem upB_c : ∀ {j : Nat}, j ≤ 24 → upB p h j = upB q g j
  | 0, _ => rfl
  | j + 1, hj => by
    funext i; simp only [upB]; rw [upB_c (j := j) (by omega), (bkV_c hp hh (j := j) (by omega)).1, uV_congr hp (i := i) (j := j) (by omega)]
theorem upU_c (r : Int) {j i : Nat} (hj : j < 24) : upU p h r j i = upU q g r j i ∧ upRH p h r j i = upRH q g r j i := by
  unfold upU upRH upUH upBH; rw [uV_congr hp hj, upB_c hp hh (j := j) (by omega), (upX_c hp hh r hj).1, (bkV_c hp hh hj).1]; exact ⟨rfl, rfl⟩
theorem upOm_c (r : Int) {O O' : Nat → Int} (hO : ∀ x, x < 300 → O x = O' x) {j : Nat} (hj : j < 24) : ∀ m x, x < 300 → upOm O p h r j m x = upOm O' q g r j m x
  | 0, x, hx => by simp only [upOm, upd]; rw [(upD_c hp hh r hj).1, hO x hx]
  | m + 1, x, hx => by simp only [upOm, upd]; rw [(upU_c hp hh r hj).1, upOm_c r hO hj m x hx]
theorem upO_c (r : Int) : ∀ {j : Nat}, j ≤ 24 → ∀ x, x < 300 → upO p h r j x = upO q g r j x
  | 0, _, x, hx => hp x hx
  | j + 1, hj, x, hx => by simp only [upO]; exact upOm_c hp hh r (upO_c r (j := j) (by omega)) (by omega) j x hx
theorem upCH_c (r : Int) {j : Nat} (hj : j < 24) : upCH p h r j = upCH q g r j := by
  unfold upCH; rw [(upD_c hp hh r hj).2, (upX_c hp hh r hj).2, orB_congr fun i _ => (upU_c hp hh r (i := i) hj).2]
theorem upG_c (r : Int) : upG p h r = upG q g r ∧ upGH p h r = upGH q g r := by
  constructor <;> funext i <;> simp only [upG, upGH] <;> rw [upB_c hp hh (j := 24) (by omega), bkA_c hp hh r (j := 24) (by omega)]
end
theorem condF_c {p q : Nat → Int} (hp : ∀ x, x < 300 → p x = q x) : ∀ x, x < 300 → condF p x = condF q x := fun x hx => by simp only [condF]; rw [hp x hx]
theorem condH_c {p q : Nat → Int} (hp : ∀ x, x < 300 → p x = q x) : condH p = condH q := by
  unfold condH; rw [orB_congr fun i hi => by rw [hp (276 + i) (by omega)], orB_congr (p := fun i => satH (p i)) fun i hi => by rw [hp i (by omega)]]
theorem satS_c {h g : Nat → Int} (hh : ∀ i, i < 24 → h i = g i) : ∀ i, i < 24 → satS h 24 i = satS g 24 i := fun i hi => by simp only [satS]; rw [hh i hi]
/-- The whole update, of rows that agree on 24 and factors that agree on 300. -/
theorem upd_c {p q h g : Nat → Int} (hp : ∀ x, x < 300 → p x = q x) (hh : ∀ i, i < 24 → h i = g i) (r : Int) :
    (∀ x, x < 300 → updP p h r x = updP q g r x) ∧ updG p h r = updG q g r ∧ updS p h r = updS q g r ∧ lkH p h r = lkH q g r ∧ updH p h r = updH q g r := by
  have cp := condF_c hp
  have ch := satS_c hh
  have lk : lkH p h r = lkH q g r := by
    unfold lkH; rw [condH_c hp, orB_congr fun i hi => by rw [hh i hi], orB_congr fun j hj => bkS_c cp ch (varV r) hj]
  refine ⟨upO_c cp ch (varV r) (Nat.le_refl 24), (upG_c cp ch (varV r)).1, bkA_c cp ch (varV r) (Nat.le_refl 24), lk, ?_⟩
  unfold updH; rw [lk, orB_congr fun j hj => upCH_c cp ch (varV r) hj, (upG_c cp ch (varV r)).2]
end Go.Proofs.Ytpbgglkopfjagaa
/- state.Add, Keep and fuse.One read 24 numbers of the state. No program. -/
namespace Go.Proofs.Ytpbgglkopfjagaa
section
variable {A B : Nat → Int} (h : ∀ i, i < 4 → A i = B i)
include h
theorem hyp_c : hypV A 4 = hypV B 4 ∧ hypH A 4 = hypH B 4 := by
  unfold hypV hypH
  rw [dotS_congr fun i hi => ⟨h i hi, h i hi⟩, orB_congr fun i hi => by rw [h i hi]]; exact ⟨rfl, rfl⟩
theorem uniT_c : (∀ i, i < 4 → uniT A i = uniT B i) ∧ uniTH A = uniTH B := by
  refine ⟨fun i hi => by unfold uniT; rw [h i hi, (hyp_c h).1], ?_⟩
  unfold uniTH; rw [(hyp_c h).1, (hyp_c h).2, orB_congr fun i hi => by rw [h i hi]]
theorem satA_c : ∀ i, i < 4 → satA A i = satA B i := fun i hi => by unfold satA; rw [h i hi]
theorem zer_c : zer4 A = zer4 B := by unfold zer4; rw [h 0 (by omega), h 1 (by omega), h 2 (by omega), h 3 (by omega)]
theorem uni_c : (∀ i, i < 4 → uniV A i = uniV B i) ∧ uniH A = uniH B := by
  have s := satA_c h
  have z := zer_c s
  have u := uniT_c s
  have v := uniT_c u.1
  constructor
  · intro i hi
    unfold uniV
    rw [z]
    by_cases hz : zer4 (satA B) = true
    · rw [if_pos hz, if_pos hz]
    · rw [if_neg hz, if_neg hz]; exact v.1 i hi
  · unfold uniH; rw [z, u.2, v.2, orB_congr fun i hi => by rw [h i hi]]
theorem unitB_c : unitB A = unitB B := by
  unfold unitB sum4 inQs inQs inQs inQs inQs; rw [h 0 (by omega), h 1 (by omega), h 2 (by omega), h 3 (by omega)]
end
theorem clm_c {S T : Nat → Int} (h : ∀ i, i < 24 → S i = T i) : (∀ i, i < 24 → clmF S i = clmF T i) ∧ clmH S = clmH T := by
  refine ⟨fun i hi => by unfold clmF; rw [h i hi], ?_⟩
  unfold clmH; exact orB_congr fun k hk => by unfold clmP; rw [h (4 + k) (by omega)]
theorem turnd_c {S T Q R : Nat → Int} (h : ∀ i, i < 24 → S i = T i) (hq : ∀ i, i < 4 → Q i = R i) : ∀ i, i < 24 → turnd S Q i = turnd T R i := fun i hi => by
  unfold turnd; split
  · rename_i h4; exact hq i h4
  · exact h i hi
theorem keep_c {S T : Nat → Int} (h : ∀ i, i < 24 → S i = T i) : (∀ i, i < 24 → keepF S i = keepF T i) ∧ keepH S = keepH T := by
  have u := uni_c (A := S) (B := T) fun i hi => h i (by omega)
  have b := unitB_c (A := S) (B := T) fun i hi => h i (by omega)
  have k : ∀ i, i < 24 → keepI S i = keepI T i := fun i hi => by
    unfold keepI
    rw [b]
    by_cases hz : unitB T = true
    · rw [if_pos hz, if_pos hz]; exact h i hi
    · rw [if_neg hz, if_neg hz]; exact turnd_c h u.1 i hi
  refine ⟨(clm_c k).1, ?_⟩
  unfold keepH; rw [b, u.2, (clm_c k).2]
theorem add1_c {S T D E : Nat → Int} (h : ∀ i, i < 24 → S i = T i) (d : ∀ i, i < 24 → D i = E i) : (∀ i, i < 24 → add1F S D i = add1F T E i) ∧ add1H S D = add1H T E := by
  have s : ∀ i, i < 24 → sumA S D i = sumA T E i := fun i hi => by unfold sumA; rw [h i hi, d i hi]
  have u := uni_c (A := sumA S D) (B := sumA T E) fun i hi => s i (by omega)
  have k := turnd_c s u.1
  refine ⟨(clm_c k).1, ?_⟩
  unfold add1H; rw [u.2, (clm_c k).2, orB_congr fun i hi => by rw [h i hi, d i hi]]
theorem addN1_c {S T D E : Nat → Int} (h : ∀ i, i < 24 → S i = T i) (d : ∀ i, i < 24 → D i = E i) : (∀ i, i < 24 → addNF S D 1 i = addNF T E 1 i) ∧ addNH S D 1 = addNH T E 1 := by
  have a := add1_c h (D := fun i => D (0 * 24 + i)) (E := fun i => E (0 * 24 + i)) fun i hi => by simpa using d i hi
  exact ⟨a.1, by unfold addNH addNH addNF; rw [a.2]⟩
/-- fuse.One, of states that agree on 24, factors on 300, and what was seen on 27. -/
theorem fo_c {S T P Q O E : Nat → Int} (hs : ∀ i, i < 24 → S i = T i) (hp : ∀ x, x < 300 → P x = Q x) (ho : ∀ i, i < 27 → O i = E i) :
    (∀ i, i < 24 → foSt S P O i = foSt T Q E i) ∧ (∀ x, x < 300 → foPt P O x = foPt Q E x) ∧ foFl S P O = foFl T Q E ∧ foL P O = foL Q E ∧ foY O = foY E ∧ foS P O = foS Q E := by
  have hy : foY O = foY E := by unfold foY; rw [ho 24 (by omega)]
  have hc := condF_c hp
  obtain ⟨u1, u2, u3, u4, u5⟩ := upd_c hc (fun i hi => ho i (by omega)) (O 25)
  rw [ho 25 (by omega)] at u1 u2 u3 u4 u5
  have e25 : O 25 = E 25 := ho 25 (by omega)
  have hv : foS P O = foS Q E := by unfold foS; rw [e25]; exact u3
  have hl : foL P O = foL Q E := by unfold foL; rw [hy, hv, ho 26 (by omega)]
  have hk := keep_c hs
  have hg : foG P O = foG Q E := by unfold foG; rw [e25, u2, hy]
  have ha := addN1_c hk.1 (D := foG Q E) (E := foG Q E) fun _ _ => rfl
  have hH : foH S P O = foH T Q E := by unfold foH; rw [e25, u4, hk.2, condH_c hp, ho 24 (by omega)]
  refine ⟨fun i hi => ?_, fun x hx => ?_, ?_, hl, hy, hv⟩
  · unfold foSt foA
    rw [hl, hg]
    by_cases hz : foL Q E = true
    · rw [if_pos hz, if_pos hz]; exact ha.1 i hi
    · rw [if_neg hz, if_neg hz]; exact hk.1 i hi
  · unfold foPt foQ
    rw [hl, e25]
    by_cases hz : foL Q E = true
    · rw [if_pos hz, if_pos hz]; exact u1 x hx
    · rw [if_neg hz, if_neg hz]; exact hc x hx
  · unfold foFl foTH; rw [hl, hH, e25, u5, u2, hy, hg, ha.2]
end Go.Proofs.Ytpbgglkopfjagaa
/- fuse.One, where one state by itself is seen. No program. -/
namespace Go.Proofs.Ytpbgglkopfjagaa
set_option maxRecDepth 100000
/-- What is seen: the row, the innovation, its variance, the gate. -/
def obF (h : Nat → Int) (y r g : Int) : Nat → Int := fun i => if i < 24 then h i else if i = 24 then y else if i = 25 then r else g
theorem obF_h (h : Nat → Int) (y r g : Int) : ∀ i, i < 24 → obF h y r g i = h i := fun i hi => by unfold obF; rw [if_pos hi]
theorem obF_y (h : Nat → Int) (y r g : Int) : obF h y r g 24 = y ∧ obF h y r g 25 = r ∧ obF h y r g 26 = g := ⟨rfl, rfl, rfl⟩
theorem fo_one {P : Nat → Int} (hp : DiagF P) {k : Nat} (hk : k < 24) {y r g : Int} (hr : 1 ≤ r ∧ r ≤ 72057594037927936) (hd : P (276 + k) ≤ 72057594037927936) :
    foS P (obF (pkF k) y r g) = P (276 + k) + r ∧
    (∀ i, i < 24 → foG P (obF (pkF k) y r g) i = mulV (if i = k then divV (P (276 + k)) (P (276 + k) + r) 30 else 0) (satV y) 30) ∧
    (∀ i, i < 24 → updG (condF P) (obF (pkF k) y r g) r i = if i = k then divV (P (276 + k)) (P (276 + k) + r) 30 else 0) ∧
    (∀ x, x < 276 → foQ P (obF (pkF k) y r g) x = 0) ∧
    (∀ i, i < 24 → foQ P (obF (pkF k) y r g) (276 + i) = if i = k then mdivV (P (276 + k)) r (P (276 + k) + r) else P (276 + i)) ∧
    condH P = false ∧ lkH (condF P) (obF (pkF k) y r g) r = false ∧ (1048576 ≤ r → updH (condF P) (obF (pkF k) y r g) r = false) := by
  have hc := cond_diag hp
  obtain ⟨c1, c2, c3, c4, c5⟩ := upd_c hc.1 (obF_h (pkF k) y r g) r
  obtain ⟨u1, u2, u3, u4, u5, u6⟩ := upd_one hp hk hr hd
  have e25 := (obF_y (pkF k) y r g).2.1
  have e24 := (obF_y (pkF k) y r g).1
  refine ⟨?_, fun i hi => ?_, fun i hi => ?_, fun x hx => ?_, fun i hi => ?_, hc.2, ?_, fun h => ?_⟩
  · unfold foS; rw [e25, c3]; exact u4
  · unfold foG foY gnF; rw [e25, e24, if_pos hi, c2, u3 i hi]
  · rw [c2]; exact u3 i hi
  · unfold foQ; rw [e25, c1 x (by omega)]; exact u1 x hx
  · unfold foQ; rw [e25, c1 (276 + i) (by omega)]; exact u2 i hi
  · rw [c4]; exact u5
  · rw [c5]; exact u6 h
/-- What chapter 18's awake looks at. -/
def awL : Nat → Int := fun i => if i < 4 then 1 else 17592186044416
def awC : Nat → Int := newF 5 awL
theorem awC_diag : DiagF awC := by
  constructor
  · intro x hx; unfold awC newF; rw [if_pos hx]
  · intro i hi
    unfold awC newF
    rw [if_neg (by omega), show 276 + i - 276 = i by omega]
    by_cases h : i < 5
    · rw [if_pos h]; unfold awL; split <;> decide
    · rw [if_neg h]; decide
theorem awC_4 : awC (276 + 4) = 17592186044416 ∧ newH 5 awL = false := by decide
def awS : Nat → Int := fun i => if i = 0 then 1073741824 else 0
def awG18 : Nat → Int := fun i => if i = 4 then 536870912 else 0
def awT : Nat → Int := fun i => if i = 0 then 1073741824 else if i = 4 then 536870912 else 0
theorem aw_st : (∀ i, i < 24 → keepF awS i = awS i) ∧ keepH awS = false ∧ (∀ i, i < 24 → addNF awS awG18 1 i = awT i) ∧ addNH awS awG18 1 = false ∧ (∀ i, i < 24 → keepF awT i = awT i) ∧ keepH awT = false := by decide +kernel
def awO1 : Nat → Int := obF (pkF 4) 1073741824 17592186044416 5
theorem aw_one : foS awC awO1 = 35184372088832 ∧ foY awO1 = 1073741824 ∧ foL awC awO1 = true ∧ (∀ i, i < 24 → foG awC awO1 i = awG18 i) ∧ foQ awC awO1 (276 + 4) = 8796093022208 ∧ orB (gnB (updG (condF awC) awO1 (awO1 25)) (foY awO1)) 24 = false := by
  obtain ⟨h1, h2, h3, h4, h5, _⟩ := fo_one awC_diag (k := 4) (by omega) (y := 1073741824) (r := 17592186044416) (g := 5) (by omega) (by rw [awC_4.1]; omega)
  rw [awC_4.1] at h1 h2 h3 h5
  have hy : foY awO1 = 1073741824 := by decide
  refine ⟨h1, hy, ?_, fun i hi => ?_, ?_, ?_⟩
  · unfold foL; rw [hy, show foS awC awO1 = 35184372088832 from h1, show awO1 26 = 5 from rfl]; decide
  · refine (h2 i hi).trans ?_
    unfold awG18; split <;> decide
  · refine (h5 4 (by omega)).trans ?_
    rw [if_pos rfl]; decide
  · refine orB_no fun i hi => ?_
    unfold gnB
    rw [show updG (condF awC) awO1 (awO1 25) i = _ from h3 i hi, hy]; split <;> decide
theorem aw_st1 : (∀ i, i < 24 → foSt awS awC awO1 i = awT i) ∧ foPt awC awO1 (276 + 4) = 8796093022208 ∧ foFl awS awC awO1 = false := by
  obtain ⟨h1, h2, h3, h4, h5, h6⟩ := aw_one
  have hg := addN1_c (S := keepF awS) (T := awS) aw_st.1 h4
  obtain ⟨_, _, _, _, _, f1, f2, f3⟩ := fo_one awC_diag (k := 4) (by omega) (y := 1073741824) (r := 17592186044416) (g := 5) (by omega) (by rw [awC_4.1]; omega)
  refine ⟨fun i hi => ?_, ?_, ?_⟩
  · unfold foSt foA; rw [if_pos h3]; exact (hg.1 i hi).trans (aw_st.2.2.1 i hi)
  · unfold foPt; rw [if_pos h3]; exact h5
  · unfold foFl foTH foH
    rw [if_pos h3, hg.2, h6, aw_st.2.1, f1, aw_st.2.2.2.1]
    rw [show lkH (condF awC) awO1 (awO1 25) = false from f2, show updH (condF awC) awO1 (awO1 25) = false from f3 (by omega)]
    decide
theorem foPt_diag : DiagF (foPt awC awO1) := by
  have h3 := aw_one.2.2.1
  obtain ⟨_, _, _, h4, h5, _⟩ := fo_one awC_diag (k := 4) (by omega) (y := 1073741824) (r := 17592186044416) (g := 5) (by omega) (by rw [awC_4.1]; omega)
  constructor
  · intro x hx; unfold foPt; rw [if_pos h3]; exact h4 x hx
  · intro i hi
    unfold foPt; rw [if_pos h3]
    have e : foQ awC awO1 (276 + i) = _ := h5 i hi
    rw [e]
    split
    · rw [awC_4.1]; decide
    · exact awC_diag.2 i hi
def awO2 : Nat → Int := obF (pkF 4) 1125899906842624 1 1
theorem aw_st2 {S P : Nat → Int} (hS : ∀ i, i < 24 → S i = awT i) (hP : DiagF P) (h4 : P (276 + 4) = 8796093022208) :
    foL P awO2 = false ∧ (∀ i, i < 24 → foSt S P awO2 i = awT i) ∧ foFl S P awO2 = false := by
  obtain ⟨h1, _, _, _, _, f1, f2, _⟩ := fo_one hP (k := 4) (by omega) (y := 1125899906842624) (r := 1) (g := 1) (by omega) (by rw [h4]; omega)
  rw [h4] at h1
  have hl : foL P awO2 = false := by
    unfold foL; rw [show foS P awO2 = 8796093022208 + 1 from h1, show foY awO2 = 1125899906842624 from by decide, show awO2 26 = 1 from rfl]; decide
  have hn : ¬ (foL P awO2 = true) := by rw [hl]; decide
  have k := keep_c hS
  refine ⟨hl, fun i hi => ?_, ?_⟩
  · unfold foSt; rw [if_neg hn]; exact (k.1 i hi).trans (aw_st.2.2.2.2.1 i hi)
  · unfold foFl foH; rw [if_neg hn, k.2, aw_st.2.2.2.2.2, f1, show lkH (condF P) awO2 (awO2 25) = false from f2]; decide
/-- The two, one behind the other. -/
def awO : Nat → Int := fun i => if i < 27 then awO1 i else awO2 (i - 27)
theorem aw_rows : (∀ i, i < 27 → rowO awO 0 i = awO1 i) ∧ (∀ i, i < 27 → rowO awO 1 i = awO2 i) :=
  ⟨fun i hi => by
    show awO (0 * 27 + i) = _
    rw [show 0 * 27 + i = i by omega]; unfold awO; rw [if_pos hi],
   fun i hi => by
    show awO (1 * 27 + i) = _
    unfold awO; rw [if_neg (by omega), show 1 * 27 + i - 27 = i by omega]⟩
theorem aw_all : alT awS awC awO 0 = true ∧ alT awS awC awO 1 = false ∧ (∀ i, i < 24 → (alN awS awC awO 2).1 i = awT i) ∧ alH awS awC awO 2 = false := by
  obtain ⟨r1, r2⟩ := aw_rows
  obtain ⟨a1, a2, a3, a4, _, _⟩ := fo_c (S := awS) (T := awS) (P := awC) (Q := awC) (fun _ _ => rfl) (fun _ _ => rfl) r1
  obtain ⟨s1, s2, s3⟩ := aw_st1
  have pd := foPt_diag
  have t1 : ∀ i, i < 24 → (alN awS awC awO 1).1 i = awT i := fun i hi => (a1 i hi).trans (s1 i hi)
  have p1 : ∀ x, x < 300 → (alN awS awC awO 1).2 x = foPt awC awO1 x := fun x hx => by
    show foPt (alN awS awC awO 0).2 (rowO awO 0) x = _
    exact a2 x hx
  have d1 : DiagF (alN awS awC awO 1).2 := ⟨fun x hx => (p1 x (by omega)).trans (pd.1 x hx), fun i hi => by rw [p1 (276 + i) (by omega)]; exact pd.2 i hi⟩
  obtain ⟨b1, b2, b3⟩ := aw_st2 t1 d1 (by rw [p1 (276 + 4) (by omega)]; exact s2)
  obtain ⟨c1, _, c3, c4, _, _⟩ := fo_c (S := (alN awS awC awO 1).1) (T := (alN awS awC awO 1).1) (P := (alN awS awC awO 1).2) (Q := (alN awS awC awO 1).2) (fun _ _ => rfl) (fun _ _ => rfl) r2
  refine ⟨a4.trans aw_one.2.2.1, c4.trans b1, fun i hi => (c1 i hi).trans (b2 i hi), ?_⟩
  simp only [alH]
  rw [show foFl (alN awS awC awO 0).1 (alN awS awC awO 0).2 (rowO awO 0) = false from a3.trans s3, show foFl (alN awS awC awO 1).1 (alN awS awC awO 1).2 (rowO awO 1) = false from c3.trans b3]; rfl
end Go.Proofs.Ytpbgglkopfjagaa
/- A slice of two observations, built. -/
namespace Go.Proofs.Ytpbgglkopfjagaa
open Go.RowKit
open Go
set_option maxRecDepth 100000
/-- Two rows of 27, one behind the other. -/
def twoO (X Y : Nat → Int) : Nat → Int := fun i => if i < 27 then X i else Y (i - 27)
theorem fill27 (X Y : Nat → Int) (Z : Array Value) (hZ : Z = arrv 54 (fun _ => 0)) : Instr.fill (fun i => some (i * 27, 27)) Z [(0, .agg (arrv 27 X)), (1, .agg (arrv 27 Y))] = some (arrv 54 (twoO X Y)) := by
  subst hZ; kernel_rfl
theorem zrange27 (Z : Array Value) (hZ : Z = arrv 27 (fun _ => 0)) : (Array.range 54).map (fun i => Z[i % Z.size]!) = arrv 54 (fun _ => 0) := by
  subst hZ; kernel_rfl
theorem run_buildSlice27 (X Y : Nat → Int) (w : World) : (Instr.buildSlice 27 2 #[(0, .agg (arrv 27 X)), (1, .agg (arrv 27 Y))]).run Try.prog w = .ok (.slice (some ⟨w.heap.size, 0, none⟩) 2 2) (w.alloc (.cells (arrv 54 (twoO X Y)) 41)) := by
  have hz : (zeroValue 41).run Try.prog w = .ok (.agg (arrv 27 (fun _ => 0))) w := by kernel_rfl
  have hs : (sizeOf 41).run Try.prog w = .ok 27 w := by kernel_rfl
  unfold Instr.buildSlice
  simp only [Sem.run_bind, run_underlying Try.underlying27, Result.andThen_ok, hs]
  rw [if_neg (by decide), if_neg (by decide)]
  have hf : Instr.fill (fun i => some (i * 27, 27)) (Array.map (fun x => (Value.agg (arrv 27 (fun _ => 0))).cells[x % (Value.agg (arrv 27 (fun _ => 0))).cells.size]!) (Array.range (2 * 27))) [(0, Value.agg (arrv 27 X)), (1, Value.agg (arrv 27 Y))] = some (arrv 54 (twoO X Y)) :=
    fill27 X Y _ (zrange27 (arrv 27 (fun _ => 0)) rfl)
  simp only [Sem.run_bind, hz, Result.andThen_ok, Sem.run_pure, hf]
  simp [newRow, newObj, go_sem]
  rfl
/-- At the operation. -/
theorem wp_bsl27 {o : Oper} {a : Act} {w : World} {K : Act → World → Prop} {Q : Exit → Act → World → Prop} {X Y : Nat → Int} (x y : Operand) (ho : o.op = .buildSlice 27 2 #[(0, x), (1, y)])
    (hx : a.eval x = .agg (arrv 27 X)) (hy : a.eval y = .agg (arrv 27 Y)) (h : K (a.put o.dst (.slice (some ⟨w.heap.size, 0, none⟩) 2 2)) (w.alloc (.cells (arrv 54 (twoO X Y)) 41))) : o.wp Try.prog a w K Q := by
  unfold Oper.wp execOp
  simp only [ho, Sem.run_bind, List.map_toArray, List.map_cons, List.map_nil, hx, hy, run_buildSlice27 X Y w, Result.andThen_ok]
  exact h
end Go.Proofs.Ytpbgglkopfjagaa
