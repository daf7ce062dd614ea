/- Contracts of the program's functions and plain laws, part 9: they hold for all arguments. -/
import Derived.Test.YtgfklheepkgedaaGreatQ06
import Derived.Test.YtgfklheepkgedaaGreatQ04
import Derived.Test.YtgfklheepkgedaaGreatProg
import Derived.Deep.AppendLies
import Derived.Test.YtgfklheepkgedaaGreatQ07
import Derived.Test.YtgfklheepkgedaaGreatQ08
import Derived.Deep.MidRow
import Derived.Test.YtgfklheepkgedaaGreatQ05
/- append of one number of int64 to a slice of the call's own. -/
namespace Go.Proofs.YtgfklheepkgedaaGreat
open Go.RowKit
open Go
theorem info_i64 : (Tryz.prog.info? 2).map (fun i => (i.zero, i.size, i.bytes)) = some (some (.int .i64 0), 1, 8) := by kernel_rfl
theorem info_i64' : ∃ i, Tryz.prog.info? 2 = some i ∧ i.zero = some (.int .i64 0) ∧ i.size = 1 ∧ i.bytes = 8 := by
  have h := info_i64
  cases e : Tryz.prog.info? 2 with
  | none => rw [e] at h; cases h
  | some i => rw [e] at h; simp at h; exact ⟨i, rfl, h.1, h.2.1, h.2.2⟩
theorem own_snoc {n : Nat} {L : Nat → Int} {x : Int} : ints n L ++ [.int .i64 x] = ints (n + 1) (upd L n x) := by
  rw [ints_succ]
  congr 1
  · exact ints_congr fun i hi => by simp [upd, show ¬ i = n by omega]
  · simp [upd]
theorem run_app1 {w : World} (B : Nat) {v : Value} {n : Nat} {L : Nat → Int} (hown : Own w B 2 v n L) (nb c : Nat) (x : Int) (hx : w.cell? ⟨nb, 0, none⟩ = some (.int .i64 x)) (hn : n ≤ 1000000) (hB : B ≤ w.heap.size) (ty : TypeId) (H : Nat) (hH : w.heap.size = H) :
    ∃ g cap w', (Builtin.append_ #[71, 71] ty #[v, .slice (some ⟨nb, 0, none⟩) 1 c]).run Tryz.prog w = .ok (.slice (some ⟨g, 0, none⟩) (n + 1) cap) w' ∧
      Own w' B 2 (.slice (some ⟨g, 0, none⟩) (n + 1) cap) (n + 1) (upd L n x) ∧ w.grownBy w' v.ownBlock ∧ (v.ownBlock = some g ∨ g = H) ∧ g < w'.heap.size := by
  obtain ⟨i, hi, hz, hs, hb⟩ := info_i64'
  obtain ⟨g, cap, w', h1, h2, h3, h4, h5⟩ := run_append_lies (P := Tryz.prog) w 71 ty B 2 i (.int .i64 0) 1 8 Tryz.underlying71 hi hz hs hb rfl (by decide) v n (ints n L) hown ⟨nb, 0, none⟩ 1 c [.int .i64 x] rfl
    (fun j u hu => by
      have hj : j = 0 := by
        have := List.getElem?_eq_some_iff.1 hu
        obtain ⟨h, _⟩ := this
        simpa using h
      subst hj
      simp at hu
      subst hu
      simpa [Addr.add] using hx) (fun u hu => by rw [List.mem_singleton] at hu; subst hu; rfl) (by decide) (by unfold maxLen; omega) (by omega) hB H hH
  exact ⟨g, cap, w', h1, by unfold Own; rw [← own_snoc]; exact h2, h3, h4, h5⟩
theorem wp_app1 {w : World} {o : Oper} {a : Act} {K : Act → World → Prop} {Q : Exit → Act → World → Prop} (s x : Operand)
    (ho : o.op = .call { callee := .builtin .append, args := #[s, x], argTypes := #[71, 71] })
    (B : Nat) {v : Value} {n : Nat} {L : Nat → Int} (hs : a.eval s = v) (hown : Own w B 2 v n L) (nb c : Nat) (y : Int) (hx : a.eval x = .slice (some ⟨nb, 0, none⟩) 1 c) (hy : w.cell? ⟨nb, 0, none⟩ = some (.int .i64 y)) (hn : n ≤ 1000000) (hB : B ≤ w.heap.size) (H : Nat) (hH : w.heap.size = H)
    (h : ∀ g cap w', Own w' B 2 (.slice (some ⟨g, 0, none⟩) (n + 1) cap) (n + 1) (upd L n y) → w.grownBy w' v.ownBlock → (v.ownBlock = some g ∨ g = H) → g < w'.heap.size → K (a.put o.dst (.slice (some ⟨g, 0, none⟩) (n + 1) cap)) w') : o.wp Tryz.prog a w K Q := by
  obtain ⟨g, cap, w', hr, h2, h3, h4, h5⟩ := run_app1 B hown nb c y hy hn hB o.type H hH
  unfold Oper.wp execOp
  simp only [ho, resolve, invoke, builtin, Sem.run_bind, Sem.run_pure, Result.andThen_ok, List.map_toArray, List.map_cons, List.map_nil, hs, hx, hr]
  exact h g cap w' h2 h3 h4 h5
theorem wpList_app1 {w : World} {ops : Array Oper} {rest : List Oper} {o : Oper} {a : Act} {Q : Exit → Act → World → Prop} (hgd : o.guard = none) (s x : Operand)
    (ho : o.op = .call { callee := .builtin .append, args := #[s, x], argTypes := #[71, 71] })
    (B : Nat) {v : Value} {n : Nat} {L : Nat → Int} (hs : a.eval s = v) (hown : Own w B 2 v n L) (nb c : Nat) (y : Int) (hx : a.eval x = .slice (some ⟨nb, 0, none⟩) 1 c) (hy : w.cell? ⟨nb, 0, none⟩ = some (.int .i64 y)) (hn : n ≤ 1000000) (hB : B ≤ w.heap.size) (H : Nat) (hH : w.heap.size = H)
    (h : ∀ g cap w', Own w' B 2 (.slice (some ⟨g, 0, none⟩) (n + 1) cap) (n + 1) (upd L n y) → w.grownBy w' v.ownBlock → (v.ownBlock = some g ∨ g = H) → g < w'.heap.size → wpList Tryz.prog ops Q rest (a.put o.dst (.slice (some ⟨g, 0, none⟩) (n + 1) cap)) w') : wpList Tryz.prog ops Q (o :: rest) a w :=
  wpList_plain hgd fun _ hK => wp_app1 s x ho B hs hown nb c y hx hy hn hB H hH fun g cap w' h2 h3 h4 h5 => hK _ _ (h g cap w' h2 h3 h4 h5)
end Go.Proofs.YtgfklheepkgedaaGreat
/- Contracts of package vec (2): Add. -/
namespace Go.Proofs.YtgfklheepkgedaaGreat
open Go.RowKit
set_option maxRecDepth 100000
open Go in
theorem run_load_mid3 {P : Program} {o : Oper} {ev : Operand → Value} {w : World} (ty : TypeId) (x : Operand) (ho : o.op = .load ty x) (b off n : Nat) (hx : ev x = .pointer (some ⟨b, off, none⟩)) (f : Nat → Int)
    (hc : ∀ j, j < n → w.cell? ⟨b, off + j, none⟩ = some (.int .i64 (f j))) (d : TypeDesc) (hu : P.underlying ty = some d) (hd : d.isRow = true) (hi : (P.info? ty).map (·.size) = some n) :
    (execOp ev o).run P w = .ok (.value (.agg (arrv n f))) w := by
  have h := run_loadVar_mid (P := P) w b off ty (arrv n f).toList d (fun j v hv => by
    have hj : j < n := by
      have := (List.getElem?_eq_some_iff.1 hv).1
      simpa [arrv_size] using this
    rw [Array.getElem?_toList, arrv_get hj] at hv
    injection hv with hv
    rw [← hv]; exact hc j hj) hu hd (by rw [hi, Array.length_toList, arrv_size])
  rw [Array.toArray_toList] at h
  unfold execOp
  simp [ho, hx, Instr.loadAt, Instr.sureAddr, Sem.run_bind, h]
theorem ownBlock_lt2 {w : World} {B T : Nat} {v : Value} {n : Nat} {L : Nat → Int} (h : Own w B T v n L) {g : Nat} (e : v.ownBlock = some g) : B ≤ g ∧ g < w.heap.size := World.ownsRow.lt h g e
theorem snoc_fun2 {n : Nat} {L : Nat → Int} {y : Int} (e : y = L n) : ∀ i, i < n + 1 → upd L n y i = L i := fun i _ => by
  unfold upd; split
  · rename_i h; rw [h, e]
  · rfl
/-- Vectors side by side. -/
def VLs (w : World) (p o n : Nat) (L : Nat → Nat → Int) : Prop := ∀ j, j < n → ∀ k, k < 3 → w.cell? ⟨p, o + j * 3 + k, none⟩ = some (.int .i64 (L j k))
theorem VLs.upd {w w' : World} {p o n : Nat} {L : Nat → Nat → Int} {c : Addr} {h h' : Bool} (s : VLs w p o n L) (hc : w.cell? c = some (.bool h)) (u : Upd c h' w w') : VLs w' p o n L := fun j hj k hk => by
  have q := s j hj k hk
  rw [u.cell (World.block_lt_of_cell? w _ q) (fun e => by rw [e] at hc; rw [hc] at q; cases q), q]
theorem VLs.below {w w' : World} {p o n : Nat} {L : Nat → Nat → Int} (s : VLs w p o n L) (u : Below w.heap.size w w') : VLs w' p o n L := fun j hj k hk => by
  have q := s j hj k hk
  exact (u.cell (World.block_lt_of_cell? w _ q)).trans q
def vaV (L : Nat → Nat → Int) (n : Nat) : Nat → Int := fun i => satV (sumS (fun j => L j i) n)
def vaH (L : Nat → Nat → Int) (n : Nat) : Nat → Bool := fun i => sumB (fun j => L j i) n || satH (sumS (fun j => L j i) n)
def vaK (L : Nat → Nat → Int) (n k : Nat) : Nat → Int := fun i => if i < k then vaV L n i else 0
/-- The blocks of vec.Add. -/
structure VaR (c : Addr) (h : Bool) (p o n : Nat) (L : Nat → Nat → Int) (F : Nat → Int) (w wr : World) : Prop where
  upd : Upd c h w wr
  r : Blk wr w.heap.size 28 3 (fun _ => 0)
  ou : Blk wr (w.heap.size + 1) 28 3 F
  ls : VLs wr p o n L
  cell : wr.cell? c = some (.bool h)
  free : wr.frozen? c = false
  cb : c.block < w.heap.size
  pb : p < w.heap.size
theorem VaR.upd' {c : Addr} {h h' : Bool} {p o n : Nat} {L : Nat → Nat → Int} {F : Nat → Int} {w wr w' : World} (s : VaR c h p o n L F w wr) (u : Upd c h' wr w') : VaR c h' p o n L F w w' := by
  have hcb := s.cb
  exact ⟨s.upd.trans u, s.r.upd u (by omega), s.ou.upd u (by omega), s.ls.upd s.cell u, u.cellc s.cell, (u.frozen (World.block_lt_of_cell? _ _ s.cell)).trans s.free, s.cb, s.pb⟩
theorem VaR.down {c : Addr} {h : Bool} {p o n : Nat} {L : Nat → Nat → Int} {F : Nat → Int} {w wr w' : World} (s : VaR c h p o n L F w wr) (u : Below wr.heap.size wr w') : VaR c h p o n L F w w' :=
  ⟨s.upd.then u, s.r.below u, s.ou.below u, s.ls.below u, (u.cell (World.block_lt_of_cell? _ _ s.cell)).trans s.cell, (u.frozen (World.block_lt_of_cell? _ _ s.cell)).trans s.free, s.cb, s.pb⟩
/-- Nothing below the own blocks has turned. -/
theorem VaR.down2 {c : Addr} {h : Bool} {p o n : Nat} {L : Nat → Nat → Int} {F : Nat → Int} {w wr w' : World} (s : VaR c h p o n L F w wr) (u : Below (w.heap.size + 1 + 1) wr w') (hz : w.heap.size + 1 + 1 ≤ wr.heap.size) : VaR c h p o n L F w w' := by
  have hcb := s.cb
  have hpb := s.pb
  exact ⟨s.upd.then' (u.mono (by omega)), (u.block _ (by omega)).trans s.r, (u.block _ (by omega)).trans s.ou, fun j hj k hk => (u.cell (show p < _ by omega)).trans (s.ls j hj k hk), (u.cell (by omega)).trans s.cell, (u.frozen (by omega)).trans s.free, s.cb, s.pb⟩
theorem VaR.set {c : Addr} {h : Bool} {p o n : Nat} {L : Nat → Nat → Int} {F : Nat → Int} {w wr : World} (s : VaR c h p o n L F w wr) (i : Nat) (x : Int) : VaR c h p o n L (Go.Proofs.YtgfklheepkgedaaGreat.upd F i x) w (wr.setCell ⟨w.heap.size + 1, i, none⟩ (.int .i64 x)) := by
  have hcb := s.cb
  have hpb := s.pb
  exact ⟨s.upd.setCell (by first | omega | (simp; done) | (simp; omega)) _, s.r.other (by first | omega | (simp; done) | (simp; omega)) _, s.ou.set _ _, fun j hj k hk => by rw [World.cell?_setCell_other _ _ _ _ (fun e => by have := congrArg Addr.block e; dsimp only at this; omega)]; exact s.ls j hj k hk, by rw [World.cell?_setCell_other _ _ _ _ (fun e => by rw [← e] at hcb; dsimp only at hcb; omega)]; exact s.cell, by rw [World.frozen?_setCell]; exact s.free, s.cb, s.pb⟩
theorem VaR.congr {c : Addr} {h h' : Bool} {p o n : Nat} {L : Nat → Nat → Int} {F G : Nat → Int} {w wr : World} (s : VaR c h p o n L F w wr) (eh : h = h') (e : ∀ i, i < 3 → F i = G i) : VaR c h' p o n L G w wr := by
  subst eh; exact ⟨s.upd, s.r, s.ou.congr e, s.ls, s.cell, s.free, s.cb, s.pb⟩
theorem va_start (c : Addr) (h : Bool) (p o n : Nat) (L : Nat → Nat → Int) (w : World) (hc : w.cell? c = some (.bool h)) (hf : w.frozen? c = false) (hn : 0 < n) (hL : VLs w p o n L) :
    VaR c h p o n L (fun _ => 0) w ((w.alloc (.cells #[.int .i64 0, .int .i64 0, .int .i64 0] 28)).alloc (.cells #[.int .i64 0, .int .i64 0, .int .i64 0] 28)) := by
  have hcb := World.block_lt_of_cell? w c hc
  have bl : Below w.heap.size w ((w.alloc (.cells #[.int .i64 0, .int .i64 0, .int .i64 0] 28)).alloc (.cells #[.int .i64 0, .int .i64 0, .int .i64 0] 28)) := by (repeat (first | with_reducible exact Below.refl _ _ | with_reducible apply Below.drew | (with_reducible refine below_drewN ?_ _) | (with_reducible refine Below.alloc ?_ (by (try simp) <;> omega) _) | (with_reducible refine Below.setCell ?_ (by (try simp) <;> omega) _)))
  refine ⟨Upd.then (Upd.refl hc) bl, ?_, ?_, hL.below bl, (bl.cell hcb).trans hc, (bl.frozen hcb).trans hf, hcb, World.block_lt_of_cell? w _ (hL 0 hn 0 (by decide))⟩
  · rw [zv3]; exact (Blk.new w _ 3 _).alloc _
  · rw [zv3]; exact Blk.new1 w _ _ 3 _
theorem VaR.row {c : Addr} {h : Bool} {p o n : Nat} {L : Nat → Nat → Int} {F : Nat → Int} {w wr : World} (s : VaR c h p o n L F w wr) (hz : w.heap.size + 1 + 1 ≤ wr.heap.size) (G : Nat → Int) :
    VaR c h p o n L F w ((wr.alloc (.cells #[.int .i64 0, .int .i64 0, .int .i64 0] 28)).setRow wr.heap.size (arrv 3 G)) ∧ Blk ((wr.alloc (.cells #[.int .i64 0, .int .i64 0, .int .i64 0] 28)).setRow wr.heap.size (arrv 3 G)) wr.heap.size 28 3 G ∧ Below wr.heap.size wr ((wr.alloc (.cells #[.int .i64 0, .int .i64 0, .int .i64 0] 28)).setRow wr.heap.size (arrv 3 G)) := by
  have b0 : Below wr.heap.size wr ((wr.alloc (.cells #[.int .i64 0, .int .i64 0, .int .i64 0] 28)).setRow wr.heap.size (arrv 3 G)) := below_row ((Below.refl _ _).alloc (Nat.le_refl _) _) (Nat.le_refl _) _
  refine ⟨s.down b0, ?_, b0⟩
  rw [zv3]; exact (Blk.new wr _ 3 _).setRow G
set_option maxHeartbeats 16000000 in
theorem vadd_any (c : Addr) (h : Bool) (p o ca n : Nat) (L : Nat → Nat → Int) (w : World) (hc : w.cell? c = some (.bool h)) (hf : w.frozen? c = false) (hn : 0 < n) (hn2 : n ≤ 100) (hL : VLs w p o n L) :
    Calls Tryz.prog 37 #[.pointer (some c), .slice (some ⟨p, o, none⟩) n ca] w fun e w' => e = .returned (.agg (arrv 3 (vaV L n))) ∧ Upd c (h || orB (vaH L n) 3) w w' := by
  have S0 := Lib.hid (va_start c h p o n L w hc hf hn hL)
  clear hc hf hL
  go_enter Tryz.func37, Tryz.ntmps37
  go_upto_region 2 with fail
  have hz0 : w.heap.size + 1 + 1 ≤ ((w.alloc (.cells #[.int .i64 0, .int .i64 0, .int .i64 0] 28)).alloc (.cells #[.int .i64 0, .int .i64 0, .int .i64 0] 28)).heap.size := by simp
  generalize (w.alloc (.cells #[.int .i64 0, .int .i64 0, .int .i64 0] 28)).alloc (.cells #[.int .i64 0, .int .i64 0, .int .i64 0] 28) = W0 at *
  go_wp2_with fail
  go_loopw [10] (fun i wr => ∃ k : Nat, k ≤ 3 ∧ i = .int .i64 k ∧ w.heap.size + 1 + 1 ≤ wr.heap.size ∧ Hid (VaR c (h || orB (vaH L n) k) p o n L (vaK L n k) w wr)) (fun i _ => 3 - (intOf i).toNat)
  case atStart => exact ⟨0, by omega, rfl, hz0, Lib.hid (S0.out.congr (by simp [orB]) fun i hi => by simp [vaK])⟩
  case round =>
    obtain ⟨k, hk, rfl, hz, R⟩ := hrel
    clear S0 hz0
    by_cases hlt : k < 3
    · have d1 : decide ((k : Int) < 3) = true := by simp; omega
      have k0 : (0 : Int) ≤ (k : Int) := Int.natCast_nonneg _
      have k1 : (k : Int) < 3 := by omega
      have HK := Lib.hid (show (h || orB (vaH L n) (k + 1)) = (h || orB (vaH L n) k || sumB (fun j => L j k) n || satH (sumS (fun j => L j k) n)) by simp [vaH, orB, Bool.or_assoc])
      obtain ⟨H, hH⟩ : ∃ x, (h || orB (vaH L n) k) = x := ⟨_, rfl⟩
      rw [hH] at R HK
      clear hH
      go_upto_region 6 with fail
      go_wp2_with fail
      go_loopw [7, 15] (fun u j wr => ∃ (q : Nat) (v : Value), q ≤ n ∧ u = v ∧ j = .int .i64 q ∧ w.heap.size + 1 + 1 ≤ wr.heap.size ∧ Hid (VaR c H p o n L (vaK L n k) w wr ∧ Own wr (w.heap.size + 1 + 1) 2 v q (fun j => L j k))) (fun _ j _ => n - (intOf j).toNat)
      case atStart => exact ⟨0, _, by omega, rfl, rfl, hz, Lib.hid ⟨R.out, Own.nil _ _ _ _⟩⟩
      case round =>
        obtain ⟨q, v, hq, hv, rfl, hz2, T⟩ := hrel
        clear R hz
        subst hv
        by_cases hqn : q < n
        · have e1 : decide (q < n) = true := by simpa using hqn
          have q0 : (0 : Int) ≤ (q : Int) := Int.natCast_nonneg _
          have q1 : (q : Int) < (n : Int) := by omega
          have LR := Lib.hid (T.out.1.ls q hqn)
          have O1 := Lib.hid T.out.2
          have V1 := Lib.hid T.out.1
          clear T
          go_upto_region 8 with fail
          refine wp_region_lit ?_
          refine wpList_val (v := ?_) rfl ?_ ?_
          rotate_left
          · (go_simp; (try (first | with_reducible rfl | (constructor <;> with_reducible rfl))))
          (try simp only [Act.put, nA, nB, nC])
          refine wpList_val (v := ?_) rfl ?_ ?_
          rotate_left
          · (refine Eq.trans (run_load_mid3 28 (.tmp 17) (by rfl) p (o + q * 3) 3 (by rfl) (L q) (fun j hj => LR.out j hj) _ Tryz.underlying28 rfl iv3) ?_; with_reducible rfl)
          (try simp only [Act.put, nA, nB, nC])
          refine wpList_act (v := ?_) (w' := ?_) rfl ?_ ?_
          rotate_left 2
          · (go_simp; (try (first | with_reducible rfl | (constructor <;> with_reducible rfl))))
          (try simp only [Act.put, nA, nB, nC])
          have NB := Lib.hid (V1.out.row hz2 (L q)); (refine wpList_done (w' := ?_) rfl ?_ ?_); rotate_left; (focus (refine Eq.trans (run_store_row 28 (.tmp 9) (.tmp 18) (by rfl) (wr.heap.size) (by rfl) (by rfl) (show Blk (wr.alloc (.cells #[.int .i64 0, .int .i64 0, .int .i64 0] 28)) wr.heap.size 28 3 (fun _ => 0) by rw [zv3]; exact Blk.new _ _ _ _) (iv3.trans rfl)) ?_; with_reducible rfl))
          refine wpList_nil ?_
          have O2 := Lib.hid (O1.out.below NB.out.2.2)
          have V2 := Lib.hid NB.out.1
          have xc := NB.out.2.1.cell hlt
          have hzw : wr.heap.size < ((wr.alloc (.cells #[.int .i64 0, .int .i64 0, .int .i64 0] 28)).setRow wr.heap.size (arrv 3 (L q))).heap.size := NB.out.2.1.lt
          generalize (wr.alloc (.cells #[.int .i64 0, .int .i64 0, .int .i64 0] 28)).setRow wr.heap.size (arrv 3 (L q)) = W2 at *
          obtain ⟨b, hb⟩ : ∃ b, wr.heap.size = b := ⟨_, rfl⟩
          have hz3 : w.heap.size + 1 + 1 ≤ W2.heap.size := by omega
          rw [hb] at xc ⊢
          obtain ⟨y, hy⟩ : ∃ y, L q k = y := ⟨_, rfl⟩
          rw [hy] at xc
          have HY := Lib.hid hy.symm
          clear NB O1 V1 LR hy hb hzw hz2
          go_upto_region 9 with fail
          go_upto_region 10 with (refine wpList_app1 rfl (.tmp 19) (.tmp 23) rfl (w.heap.size + 1 + 1) rfl (O2.out.alloc _) W2.heap.size 1 y rfl (by simp [go_sem]) (by omega) (by simp; omega) (W2.heap.size + 1) (by simp) ?_; intro g1 cp1 w3 hO1 hg1 hat1 hlt1; have HO1 := Lib.hid hO1; have HG1 := Lib.hid hg1; clear hO1 hg1 hat1)
          have hB := below_grown ((Below.refl (w.heap.size + 1 + 1) W2).alloc (by omega) (.cells #[.int .i64 y] 2)) HG1.out (fun j hj => (ownBlock_lt2 O2.out hj).1) (by simp; omega)
          have V3 := Lib.hid (V2.out.down2 hB hz3)
          have hz4 : w.heap.size + 1 + 1 ≤ w3.heap.size := by have := hB.size; omega
          have O3 := Lib.hid (HO1.out.congr (snoc_fun2 HY.out))
          clear hB HO1 HG1 O2 V2 HY xc hz3
          go_wp2_with fail
          go_roundw
          case rel => exact ⟨q + 1, _, by omega, rfl, by go_num, hz4, Lib.hid ⟨V3.out, O3.out⟩⟩
          case measure => simp [intOf]; omega
        · have hq2 : q = n := by omega
          subst hq2
          have e1 : decide (q < q) = false := by simp
          obtain ⟨g, cp, rfl, hg1, hg2, hg3⟩ := T.out.2.slc hn
          have V1 := Lib.hid T.out.1
          have FC := Lib.hid (fadd_any c H (fun j => L j k) g 0 cp q wr V1.out.cell V1.out.free hn2 hg3)
          clear T hg1 hg2 hg3
          go_upto_region 11 with fail
          go_wp2_with (go_at_call 75; (refine FC.out.mono ?_); rintro e w4 ⟨rfl, hu4⟩; have hz4 := hu4.size; have V4 := Lib.hid (V1.out.upd' hu4); clear hu4 FC V1; have a0 := V4.out.ou.cell hlt; have a1 := V4.out.ou.free k)
          go_roundw
          case rel =>
            refine ⟨k + 1, by omega, by go_num, by rw [setCell_size]; omega, Lib.hid ((V4.out.set k _).congr HK.out.symm fun i hi => ?_)⟩
            simp only [Go.Proofs.YtgfklheepkgedaaGreat.upd, vaK]
            by_cases h1 : i = k
            · subst h1; rw [if_pos rfl, if_pos (by omega)]; rfl
            · rw [if_neg h1]
              by_cases h2 : i < k
              · rw [if_pos h2, if_pos (by omega)]
              · rw [if_neg h2, if_neg (by omega)]
          case measure => simp [intOf]; omega
    · have hk3 : k = 3 := by omega
      subst hk3
      have R2 := R.out.congr rfl (G := vaV L n) fun i hi => by simp only [vaK]; rw [if_pos hi]
      have U := Lib.hid R2.upd
      have B0 := R2.ou
      have B1 := R2.r
      clear R R2
      rw [show ((3 : Nat) : Int) = 3 from rfl]
      go_wp2_with (first | (refine wpList_load_row rfl 28 _ rfl (w.heap.size + 1) rfl 28 _ (0, 0) _ (B0) Tryz.underlying28 rfl (iv3.trans (by rw [arrv_size])) ?_) | (refine wpList_store_row rfl 28 _ _ rfl (w.heap.size) _ rfl rfl 28 _ (B1) (iv3.trans (by rw [arrv_size])) (by rw [arrv_size, arrv_size]) (oneCell_arrv _ _) ?_))
      refine bodyPost_ret (results_cell_row Tryz.results37 _ _ w.heap.size 28 (arrv 3 (vaV L n)) (0, 0) _ rfl (setRow_heap _ _ _ _ _ _ B1) Tryz.underlying28 rfl (iv3.trans (by rw [arrv_size]))) rfl ⟨rfl, ?_⟩
      exact U.out.then' (below_row (Below.refl _ _) (by omega) _)
end Go.Proofs.YtgfklheepkgedaaGreat
/- Slices of two or three vectors, built; a vector built out of its last number. -/
namespace Go.Proofs.YtgfklheepkgedaaGreat
open Go.RowKit
open Go
set_option maxRecDepth 100000
end Go.Proofs.YtgfklheepkgedaaGreat
/- Plain laws of Keep. -/
namespace Go.Proofs.YtgfklheepkgedaaGreat
theorem orB_noB {p : Nat → Bool} : ∀ {n : Nat}, (∀ i, i < n → p i = false) → orB p n = false
  | 0, _ => rfl
  | n + 1, h => by simp only [orB]; rw [orB_noB fun i hi => h i (by omega), h n (by omega)]; rfl
end Go.Proofs.YtgfklheepkgedaaGreat
/- reset's numbers: numbers of an estimate become others, within their box (plain laws). No program. -/
namespace Go.Proofs.YtgfklheepkgedaaGreat
/-- The number that the k-th state of a run from 'fr' becomes. -/
def mvX (fr : Nat) (L : Nat → Int) (k : Nat) : Int := clampV (L k) (-(boxF (fr + k))) (boxF (fr + k))
/-- The estimate behind k of them. -/
def mvS (S : Nat → Int) (fr : Nat) (L : Nat → Int) : Nat → Nat → Int | 0 => S | k + 1 => upd (mvS S fr L k) (fr + k) (mvX fr L k)
/-- By how much. -/
def mvD (S : Nat → Int) (fr : Nat) (L : Nat → Int) (k : Nat) : Int := subV (mvX fr L k) (S (fr + k))
def mvB (S : Nat → Int) (fr : Nat) (L : Nat → Int) (k : Nat) : Bool := clampH (L k) (-(boxF (fr + k))) (boxF (fr + k)) || subH (mvX fr L k) (S (fr + k))
theorem mvS_at (S : Nat → Int) (fr : Nat) (L : Nat → Int) : ∀ k i, mvS S fr L k i = if fr ≤ i ∧ i < fr + k then mvX fr L (i - fr) else S i
  | 0, i => by rw [if_neg (by omega)]; rfl
  | k + 1, i => by
      show upd (mvS S fr L k) (fr + k) (mvX fr L k) i = _
      unfold upd
      by_cases h : i = fr + k
      · rw [if_pos h, if_pos (by omega), show i - fr = k by omega]
      · rw [if_neg h, mvS_at S fr L k i]
        by_cases h2 : fr ≤ i ∧ i < fr + k
        · rw [if_pos h2, if_pos (by omega)]
        · rw [if_neg h2, if_neg (by omega)]
theorem boxF_pos (i : Nat) : 134217728 ≤ boxF i ∧ boxF i ≤ 9007199254740992 := by
  unfold boxF
  repeat' split
  all_goals omega
end Go.Proofs.YtgfklheepkgedaaGreat
/- Contract of reset.moved. -/
namespace Go.Proofs.YtgfklheepkgedaaGreat
open Go.RowKit
set_option maxRecDepth 100000
theorem Own.rowk {w : World} {B T k : Nat} {v : Value} {n : Nat} {L : Nat → Int} (h : Own w B T v n L) (cs : Array Value) (hk : k < B) : Own (w.setRow k cs) B T v n L := h.kept fun j hB _ _ => Go.setRow_other w k j cs (by omega)
theorem snoc_fun3 {n : Nat} {L : Nat → Int} {y : Int} (e : y = L n) : ∀ i, i < n + 1 → upd L n y i = L i := fun i _ => by
  unfold upd; split
  · next h => subst h; exact e
  · rfl
theorem ownBlock_lt3 {w : World} {B T : Nat} {v : Value} {n : Nat} {L : Nat → Int} (h : Own w B T v n L) {g : Nat} (e : v.ownBlock = some g) : B ≤ g ∧ g < w.heap.size := by
  rcases h.2 with ⟨h0, _⟩ | ⟨g', cap, cur, rfl, hb, hgg, _⟩
  · subst h0; cases e
  · injection e with e; subst e; exact ⟨hb, (Array.getElem?_eq_some_iff.1 hgg).1⟩
theorem mv_flag (h : Bool) (S : Nat → Int) (fr : Nat) (L : Nat → Int) (k : Nat) :
    (h || orB (mvB S fr L) k || clampH (L k) (-(boxF (fr + k))) (boxF (fr + k)) || satH (mvX fr L k) || satH (S (fr + k)) || satH (satV (mvX fr L k) - satV (S (fr + k)))) = (h || orB (mvB S fr L) (k + 1)) := by
  simp only [orB, mvB, subH, Bool.or_assoc]
open Go in
/-- The results of a function that gives a row and a number (or slice). -/
theorem results_row1 {P : Program} {fn : Func} {p u : Tmp} {ty : TypeId} (h : fn.results = #[.cell p ty, .tmp u]) (tmps : Array Value) (w : World) (g : Nat) (t : TypeId) (cs : Array Value) (fr : Nat × Nat) (d : TypeDesc)
    (hp : tmps.getD p undef = .pointer (some ⟨g, 0, none⟩)) (hg : w.heap[g]? = some (.cells cs t fr))
    (hu : P.underlying ty = some d) (hd : (match d with | .struct _ | .array _ _ => true | _ => false) = true) (hi : (P.info? ty).map (·.size) = some cs.size)
    (v : Value) (hv : tmps.getD u undef = v) :
    (results fn tmps).run P w = .ok (.tuple #[.agg cs, v]) w := by
  have e1 : tmps[p]?.getD undef = .pointer (some ⟨g, 0, none⟩) := by simpa using hp
  have e3 : tmps[u]?.getD undef = v := by simpa using hv
  simp [results, h, e1, e3, asAddr, run_loadVar_row w g t ty cs fr d hg hu hd hi]
/-- The blocks of moved: the estimate, its result, the box, the slice of what changed. -/
structure MvR (c : Addr) (h : Bool) (bb : Nat) (F : Nat → Int) (v : Value) (k : Nat) (D : Nat → Int) (w wr : World) : Prop where
  upd : Upd c h w wr
  s : Blk wr w.heap.size 23 24 F
  r : Blk wr (w.heap.size + 1) 23 24 (fun _ => 0)
  b : Blk wr bb 111 24 boxF
  own : Own wr (bb + 1) 2 v k D
  lt : w.heap.size + 1 < bb
theorem MvR.upd' {c : Addr} {h h' : Bool} {bb : Nat} {F : Nat → Int} {v : Value} {k : Nat} {D : Nat → Int} {w wr w' : World} (s : MvR c h bb F v k D w wr) (hc : c.block < w.heap.size) (u : Upd c h' wr w') : MvR c h' bb F v k D w w' := by
  have := s.lt
  exact ⟨s.upd.trans u, s.s.upd u (by omega), s.r.upd u (by omega), s.b.upd u (by omega), s.own.upd u (by omega), s.lt⟩
theorem MvR.down {c : Addr} {h : Bool} {bb : Nat} {F : Nat → Int} {v : Value} {k : Nat} {D : Nat → Int} {w wr w' : World} (s : MvR c h bb F v k D w wr) (u : Below wr.heap.size wr w') : MvR c h bb F v k D w w' :=
  ⟨s.upd.then u, s.s.below u, s.r.below u, s.b.below u, s.own.below u, s.lt⟩
theorem MvR.drew {c : Addr} {h : Bool} {bb : Nat} {F : Nat → Int} {v : Value} {k : Nat} {D : Nat → Int} {w wr : World} (s : MvR c h bb F v k D w wr) : MvR c h bb F v k D w wr.drew := s.down (Below.drew (Below.refl _ _))
theorem MvR.set {c : Addr} {h : Bool} {bb : Nat} {F : Nat → Int} {v : Value} {k : Nat} {D : Nat → Int} {w wr : World} (s : MvR c h bb F v k D w wr) (i : Nat) (x : Int) : MvR c h bb (Go.Proofs.YtgfklheepkgedaaGreat.upd F i x) v k D w (wr.setCell ⟨w.heap.size, i, none⟩ (.int .i64 x)) := by
  have := s.lt
  exact ⟨s.upd.setCell (Nat.le_refl _) _, s.s.set i x, s.r.other (by simp) _, s.b.other (by simp; omega) _, s.own.kept fun k hk _ _ => heap_setCell_other _ _ k _ (by simp; omega), s.lt⟩
theorem MvR.grown {c : Addr} {h : Bool} {bb : Nat} {F : Nat → Int} {v v' : Value} {k : Nat} {D : Nat → Int} {w wr w' : World} (s : MvR c h bb F v k D w wr) (g : wr.grownBy w' v.ownBlock) (ho : Own w' (bb + 1) 2 v' (k + 1) D) : MvR c h bb F v' (k + 1) D w w' := by
  have hl := s.lt
  have hb : ∀ j, j < bb + 1 → j < wr.heap.size → w'.heap[j]? = wr.heap[j]? := fun j hk hl => g.block j hl (fun e => by have := (ownBlock_lt3 s.own e.symm).1; omega)
  refine ⟨s.upd.then' (below_grown (Below.refl _ _) g (fun k e => by have := (ownBlock_lt3 s.own e).1; omega) s.upd.size), ?_, ?_, ?_, ho, hl⟩
  · exact (hb _ (by omega) s.s.lt).trans s.s
  · exact (hb _ (by omega) s.r.lt).trans s.r
  · exact (hb _ (by omega) s.b.lt).trans s.b
theorem mv_start (c : Addr) (h : Bool) (S D : Nat → Int) (w w1 : World) (hc : w.cell? c = some (.bool h)) (hb : Below ((w.alloc (.cells (arrv 24 S) 23)).alloc (.cells #[.int .i64 0, .int .i64 0, .int .i64 0, .int .i64 0, .int .i64 0, .int .i64 0, .int .i64 0, .int .i64 0, .int .i64 0, .int .i64 0, .int .i64 0, .int .i64 0, .int .i64 0, .int .i64 0, .int .i64 0, .int .i64 0, .int .i64 0, .int .i64 0, .int .i64 0, .int .i64 0, .int .i64 0, .int .i64 0, .int .i64 0, .int .i64 0] 23)).heap.size ((w.alloc (.cells (arrv 24 S) 23)).alloc (.cells #[.int .i64 0, .int .i64 0, .int .i64 0, .int .i64 0, .int .i64 0, .int .i64 0, .int .i64 0, .int .i64 0, .int .i64 0, .int .i64 0, .int .i64 0, .int .i64 0, .int .i64 0, .int .i64 0, .int .i64 0, .int .i64 0, .int .i64 0, .int .i64 0, .int .i64 0, .int .i64 0, .int .i64 0, .int .i64 0, .int .i64 0, .int .i64 0] 23)) w1) :
    MvR c h w1.heap.size S (.slice none 0 0) 0 D w ((w1.alloc (.cells #[.int .i64 0, .int .i64 0, .int .i64 0, .int .i64 0, .int .i64 0, .int .i64 0, .int .i64 0, .int .i64 0, .int .i64 0, .int .i64 0, .int .i64 0, .int .i64 0, .int .i64 0, .int .i64 0, .int .i64 0, .int .i64 0, .int .i64 0, .int .i64 0, .int .i64 0, .int .i64 0, .int .i64 0, .int .i64 0, .int .i64 0, .int .i64 0] 111)).setRow w1.heap.size (arrv 24 boxF)) ∧ Blk (w1.alloc (.cells #[.int .i64 0, .int .i64 0, .int .i64 0, .int .i64 0, .int .i64 0, .int .i64 0, .int .i64 0, .int .i64 0, .int .i64 0, .int .i64 0, .int .i64 0, .int .i64 0, .int .i64 0, .int .i64 0, .int .i64 0, .int .i64 0, .int .i64 0, .int .i64 0, .int .i64 0, .int .i64 0, .int .i64 0, .int .i64 0, .int .i64 0, .int .i64 0] 111)) w1.heap.size 111 24 (fun _ => 0) := by
  have R0 : Blk ((w.alloc (.cells (arrv 24 S) 23)).alloc (.cells #[.int .i64 0, .int .i64 0, .int .i64 0, .int .i64 0, .int .i64 0, .int .i64 0, .int .i64 0, .int .i64 0, .int .i64 0, .int .i64 0, .int .i64 0, .int .i64 0, .int .i64 0, .int .i64 0, .int .i64 0, .int .i64 0, .int .i64 0, .int .i64 0, .int .i64 0, .int .i64 0, .int .i64 0, .int .i64 0, .int .i64 0, .int .i64 0] 23)) (w.heap.size + 1) 23 24 (fun _ => 0) := by rw [zvec24]; exact Blk.new1 w _ _ 24 _
  have P0 : Blk ((w.alloc (.cells (arrv 24 S) 23)).alloc (.cells #[.int .i64 0, .int .i64 0, .int .i64 0, .int .i64 0, .int .i64 0, .int .i64 0, .int .i64 0, .int .i64 0, .int .i64 0, .int .i64 0, .int .i64 0, .int .i64 0, .int .i64 0, .int .i64 0, .int .i64 0, .int .i64 0, .int .i64 0, .int .i64 0, .int .i64 0, .int .i64 0, .int .i64 0, .int .i64 0, .int .i64 0, .int .i64 0] 23)) w.heap.size 23 24 S := (Blk.new w _ 24 _).alloc _
  have U0 : Upd c h w ((w.alloc (.cells (arrv 24 S) 23)).alloc (.cells #[.int .i64 0, .int .i64 0, .int .i64 0, .int .i64 0, .int .i64 0, .int .i64 0, .int .i64 0, .int .i64 0, .int .i64 0, .int .i64 0, .int .i64 0, .int .i64 0, .int .i64 0, .int .i64 0, .int .i64 0, .int .i64 0, .int .i64 0, .int .i64 0, .int .i64 0, .int .i64 0, .int .i64 0, .int .i64 0, .int .i64 0, .int .i64 0] 23)) := Upd.then (Upd.refl hc) (by (repeat (first | with_reducible exact Below.refl _ _ | with_reducible apply Below.drew | (with_reducible refine below_drewN ?_ _) | (with_reducible refine Below.alloc ?_ (by (try simp) <;> omega) _) | (with_reducible refine Below.setCell ?_ (by (try simp) <;> omega) _))))
  have X1 : Blk (w1.alloc (.cells #[.int .i64 0, .int .i64 0, .int .i64 0, .int .i64 0, .int .i64 0, .int .i64 0, .int .i64 0, .int .i64 0, .int .i64 0, .int .i64 0, .int .i64 0, .int .i64 0, .int .i64 0, .int .i64 0, .int .i64 0, .int .i64 0, .int .i64 0, .int .i64 0, .int .i64 0, .int .i64 0, .int .i64 0, .int .i64 0, .int .i64 0, .int .i64 0] 111)) w1.heap.size 111 24 (fun _ => 0) := by rw [zvec24]; exact Blk.new _ _ 24 _
  have B1 : Below w1.heap.size w1 ((w1.alloc (.cells #[.int .i64 0, .int .i64 0, .int .i64 0, .int .i64 0, .int .i64 0, .int .i64 0, .int .i64 0, .int .i64 0, .int .i64 0, .int .i64 0, .int .i64 0, .int .i64 0, .int .i64 0, .int .i64 0, .int .i64 0, .int .i64 0, .int .i64 0, .int .i64 0, .int .i64 0, .int .i64 0, .int .i64 0, .int .i64 0, .int .i64 0, .int .i64 0] 111)).setRow w1.heap.size (arrv 24 boxF)) := below_row ((Below.refl _ _).alloc (Nat.le_refl _) _) (Nat.le_refl _) _
  have hlt := (R0.below hb).lt
  exact ⟨⟨(U0.then hb).then B1, (P0.below hb).below B1, (R0.below hb).below B1, X1.setRow _, Own.nil _ _ _ _, hlt⟩, X1⟩
set_option maxHeartbeats 8000000 in
theorem moved_any (c : Addr) (h : Bool) (S : Nat → Int) (fr : Nat) (p : Option Addr) (n cp : Nat) (L : Nat → Int) (w : World) (hc : w.cell? c = some (.bool h)) (hf : w.frozen? c = false) (hL : Slc w p n L) (hn : fr + n ≤ 24) :
    Calls Tryz.prog 35 #[.pointer (some c), .agg (arrv 24 S), .int .i64 (fr : Int), .slice p n cp] w fun e w' =>
      ∃ v, e = .returned (.tuple #[.agg (arrv 24 (keepF (mvS S fr L n))), v]) ∧ Own w' w.heap.size 2 v n (mvD S fr L) ∧ Upd c (h || orB (mvB S fr L) n || keepH (mvS S fr L n)) w w' := by
  have hcb := World.block_lt_of_cell? w c hc
  have GS := Lib.hid (fun (w1 : World) hb => mv_start c h S (mvD S fr L) w w1 hc hb)
  have HC := Lib.hid hc
  have HF := Lib.hid hf
  have HL := Lib.hid hL
  clear hc hf hL
  go_enter Tryz.func35, Tryz.ntmps35
  go_upto_region 1 with fail
  refine wp_region_lit ?_
  refine wpList_step (fun K hK => ?_)
  go_simp
  (refine (bounds_any _).mono ?_); rintro e w1 ⟨rfl, hb1⟩; have S0 := Lib.hid (GS.out w1 hb1); clear hb1
  (try dsimp only)
  (try simp only [Act.put, nA, nB, nC])
  refine hK _ _ ?_
  clear hK K
  refine wpList_act (v := ?_) (w' := ?_) rfl ?_ ?_
  rotate_left 2
  · (go_simp; (try (first | with_reducible rfl | (constructor <;> with_reducible rfl))))
  (try simp only [Act.put, nA, nB, nC])
  refine wpList_done (w' := ?_) rfl ?_ ?_
  rotate_left
  · refine Eq.trans (run_store_row 111 (.tmp 10) (.tmp 14) (by rfl) (w1.heap.size) (by rfl) (by rfl) (S0.out.2) (ibox.trans rfl)) ?_; with_reducible rfl
  (try simp only [Act.put, nA, nB, nC])
  refine wpList_nil ?_
  have S1 := Lib.hid S0.out.1
  generalize (w1.alloc (.cells #[.int .i64 0, .int .i64 0, .int .i64 0, .int .i64 0, .int .i64 0, .int .i64 0, .int .i64 0, .int .i64 0, .int .i64 0, .int .i64 0, .int .i64 0, .int .i64 0, .int .i64 0, .int .i64 0, .int .i64 0, .int .i64 0, .int .i64 0, .int .i64 0, .int .i64 0, .int .i64 0, .int .i64 0, .int .i64 0, .int .i64 0, .int .i64 0] 111)).setRow w1.heap.size (arrv 24 boxF) = W1 at *
  obtain ⟨bb, hbb⟩ : ∃ x, w1.heap.size = x := ⟨_, rfl⟩
  rw [hbb] at S1 ⊢
  clear S0 GS hbb
  go_wp2_with fail
  go_loopw [11, 17] (fun v0 i wr => ∃ (k : Nat) (v : Value), k ≤ n ∧ i = .int .i64 k ∧ v = v0 ∧ Hid (MvR c (h || orB (mvB S fr L) k) bb (mvS S fr L k) v k (mvD S fr L) w wr)) (fun _ i _ => n - (intOf i).toNat)
  case atStart =>
    refine ⟨0, _, by omega, rfl, rfl, ?_⟩
    rw [show (h || orB (mvB S fr L) 0) = h from by simp [orB]]
    exact S1
  case round =>
    obtain ⟨k, v, hk, rfl, rfl, R⟩ := hrel
    clear S1
    by_cases hlt : k < n
    · have d1 : decide (k < n) = true := by simpa using hlt
      have d2 : decide ((k : Int) < (n : Int)) = true := by simp; omega
      obtain ⟨pb, po, rfl, hcell⟩ := HL.out k hlt
      have hne : (⟨pb, po + k, none⟩ : Addr) ≠ c := fun e => by rw [e, HC.out] at hcell; cases hcell
      have hpl := World.block_lt_of_cell? _ _ hcell
      have hcell' : wr.cell? ⟨pb, po + k, none⟩ = some (.int .i64 (L k)) := (R.out.upd.cell hpl (Ne.symm hne)).trans hcell
      have k0 : (0 : Int) ≤ (k : Int) := Int.natCast_nonneg _
      have k1 : (k : Int) < (n : Int) := by omega
      have FL := mv_flag h S fr L k
      have FS : mvS S fr L (k + 1) = Go.Proofs.YtgfklheepkgedaaGreat.upd (mvS S fr L k) (fr + k) (mvX fr L k) := rfl
      have FD : mvD S fr L k = satV (satV (mvX fr L k) - satV (S (fr + k))) := rfl
      have FX : mvX fr L k = clampV (L k) (-(boxF (fr + k))) (boxF (fr + k)) := rfl
      have FF : mvS S fr L k (fr + k) = S (fr + k) := by rw [mvS_at, if_neg (by omega)]
      obtain ⟨j, hj⟩ : ∃ j : Nat, fr + k = j := ⟨_, rfl⟩
      have kw : IntKind.i64.wrap ((fr : Int) + (k : Int)) = (j : Int) := by rw [← hj, Int.natCast_add]; exact IntWalk.i64_in _ (by omega)
      have j24 : j < 24 := by omega
      have j0 : (0 : Int) ≤ (j : Int) := Int.natCast_nonneg _
      have j1 : (j : Int) < 24 := by omega
      have hM := boxF_pos j
      rw [hj] at FL FS FD FX FF
      obtain ⟨F, hF⟩ : ∃ x, mvS S fr L k = x := ⟨_, rfl⟩
      obtain ⟨D, hD⟩ : ∃ x, mvD S fr L = x := ⟨_, rfl⟩
      obtain ⟨H, hH⟩ : ∃ x, (h || orB (mvB S fr L) k) = x := ⟨_, rfl⟩
      obtain ⟨x, hx⟩ : ∃ x, L k = x := ⟨_, rfl⟩
      obtain ⟨M, hMe⟩ : ∃ M, boxF j = M := ⟨_, rfl⟩
      obtain ⟨y, hy⟩ : ∃ y, mvX fr L k = y := ⟨_, rfl⟩
      obtain ⟨z, hz⟩ : ∃ z, S j = z := ⟨_, rfl⟩
      rw [hx] at hcell'
      rw [hF, hD, hH] at R
      rw [hH, hx, hMe, hy, hz] at FL
      rw [hF, hy] at FS
      rw [hD, hy, hz] at FD
      rw [hx, hMe, hy] at FX
      rw [hF, hz] at FF
      rw [hMe] at hM
      obtain ⟨d, hd⟩ : ∃ d, satV (satV y - satV z) = d := ⟨_, rfl⟩
      rw [hd] at FD
      have hneg := neg_in M (by omega)
      have bM := R.out.b.cell (i := j) j24
      rw [hMe] at bM
      have GX := Lib.hid FX.symm
      have GL := Lib.hid FL
      have GS := Lib.hid FS
      have GD := Lib.hid FD
      have GZ := Lib.hid hd
      have GF := Lib.hid FF
      have HME := Lib.hid hMe
      have HDD := Lib.hid hD
      clear FX FL FS FD FF hj hF hD hH hx hMe hy hz hM hcell hne hpl hd
      go_upto_region 6 with fail
      have HS := Lib.hid R.out.drew
      clear R
      refine wp_region_M (fun w' => w'.cell? ⟨bb, j, none⟩ = some (.int .i64 M)) 14 (by kernel_rfl) ?_ (fun hHeld => ?_)
      · exact (HS.out.b.cell (i := j) j24).trans (congrArg (fun z => some (Go.Value.int .i64 z)) HME.out)
      refine wpAnyM_take 0 (v := ?_) rfl (by kernel_rfl) (fun _ _ _ h => h) (Or.inl ⟨by rfl, ?_⟩) (by assumption) ?_
      rotate_left
      · (intro wx hSw; (try dsimp only at hSw); go_simp; (try with_reducible rfl))
      (try simp only [Act.put, nA, nB, nC])
      refine wpAnyM_take 1 (v := ?_) rfl (by kernel_rfl) (fun _ _ _ h => h) (Or.inl ⟨by rfl, ?_⟩) (by assumption) ?_
      rotate_left
      · (intro wx hSw; (try dsimp only at hSw); go_simp; (try with_reducible rfl))
      (try simp only [Act.put, nA, nB, nC])
      refine wpAnyM_take 2 (v := ?_) rfl (by kernel_rfl) (fun _ _ _ h => h) (Or.inl ⟨by rfl, ?_⟩) (by assumption) ?_
      rotate_left
      · (intro wx hSw; (try dsimp only at hSw); go_simp; (try with_reducible rfl))
      (try simp only [Act.put, nA, nB, nC])
      refine wpAnyM_take 3 (v := ?_) rfl (by kernel_rfl) (fun _ _ _ h => h) (Or.inl ⟨by rfl, ?_⟩) (by assumption) ?_
      rotate_left
      · (intro wx hSw; (try dsimp only at hSw); go_simp; (try with_reducible rfl))
      (try simp only [Act.put, nA, nB, nC])
      refine wpAnyM_take 4 (v := ?_) rfl (by kernel_rfl) (fun _ _ _ h => h) (Or.inl ⟨by rfl, ?_⟩) (by assumption) ?_
      rotate_left
      · (intro wx hSw; (try dsimp only at hSw); go_simp; (try rw [kw]); (try with_reducible rfl))
      (try simp only [Act.put, nA, nB, nC])
      refine wpAnyM_take 5 (v := ?_) rfl (by kernel_rfl) (fun _ _ _ h => h) (Or.inl ⟨by rfl, ?_⟩) (by assumption) ?_
      rotate_left
      · (intro wx hSw; (try dsimp only at hSw); go_simp; (try with_reducible rfl))
      (try simp only [Act.put, nA, nB, nC])
      refine wpAnyM_take 6 (v := ?_) rfl (by kernel_rfl) (fun _ _ _ h => h) (Or.inl ⟨by rfl, ?_⟩) (by assumption) ?_
      rotate_left
      · (intro wx hSw; (try dsimp only at hSw); go_simp; (try with_reducible rfl))
      (try simp only [Act.put, nA, nB, nC])
      refine wpAnyM_take 7 (v := ?_) rfl (by kernel_rfl) (fun _ _ _ h => h) (Or.inl ⟨by rfl, ?_⟩) (by assumption) ?_
      rotate_left
      · (intro wx hSw; (try dsimp only at hSw); go_simp; (try rw [hneg]); (try with_reducible rfl))
      (try simp only [Act.put, nA, nB, nC])
      refine wpAnyM_take 8 (v := ?_) rfl (by kernel_rfl) (fun _ _ _ h => h) (Or.inl ⟨by rfl, ?_⟩) (by assumption) ?_
      rotate_left
      · (intro wx hSw; (try dsimp only at hSw); go_simp; (try with_reducible rfl))
      (try simp only [Act.put, nA, nB, nC])
      refine wpAnyM_take 9 (v := ?_) rfl (by kernel_rfl) (fun _ _ _ h => h) (Or.inl ⟨by rfl, ?_⟩) (by assumption) ?_
      rotate_left
      · (intro wx hSw; (try dsimp only at hSw); go_simp; (try with_reducible rfl))
      (try simp only [Act.put, nA, nB, nC])
      refine wpAnyM_take 10 (v := ?_) rfl (by kernel_rfl) (fun _ _ _ h => h) (Or.inl ⟨by rfl, ?_⟩) (by assumption) ?_
      rotate_left
      · (intro wx hSw; (try dsimp only at hSw); go_simp; (try rw [kw]); (try with_reducible rfl))
      (try simp only [Act.put, nA, nB, nC])
      refine wpAnyM_take 11 (v := ?_) rfl (by kernel_rfl) (fun _ _ _ h => h) (Or.inl ⟨by rfl, ?_⟩) (by assumption) ?_
      rotate_left
      · (intro wx hSw; (try dsimp only at hSw); go_simp; (try with_reducible rfl))
      (try simp only [Act.put, nA, nB, nC])
      refine wpAnyM_take 12 (v := ?_) rfl (by kernel_rfl) (fun _ _ _ h => h) (Or.inl ⟨by rfl, ?_⟩) (by assumption) ?_
      rotate_left
      · (intro wx hSw; (try dsimp only at hSw); go_simp; (try with_reducible rfl))
      (try simp only [Act.put, nA, nB, nC])
      refine wpAnyM_oneS 13 rfl (by kernel_rfl) (fun K hK => ?_)
      go_simp
      (refine (clamp_any c H x (-M) M _ (HS.out.upd.cellc HC.out) ((HS.out.upd.frozen hcb).trans HF.out)).mono ?_); (rw [GX.out]); rintro e w2 ⟨rfl, hw2⟩; have HU := Lib.hid (HS.out.upd' hcb (show Upd c (H || clampH x (-M) M) wr.drew w2 from by rw [← hw2]; exact Upd.set c _ _)); clear hw2 HS; have HS := HU; clear HU
      (try dsimp only)
      (try simp only [Act.put, nA, nB, nC])
      clear hHeld
      refine hK.out _ _ ?_ (fun hHeld => ?_)
      · exact (HS.out.b.cell (i := j) j24).trans (congrArg (fun z => some (Go.Value.int .i64 z)) HME.out)
      clear hK K
      (try simp only [Act.put, nA, nB, nC])
      refine wpAnyM_one 14 rfl (by kernel_rfl) (fun K hK => ?_)
      go_simp
      refine hK.out _ _ (.inl (by kernel_rfl)) (fun _ => ?_)
      clear hK K
      (try simp only [Act.put, nA, nB, nC])
      refine wpAnyM_done (by kernel_rfl) ?_ _
      go_upto_region 7 with fail
      have sc := HS.out.s.cell (i := j) j24
      rw [GF.out] at sc
      refine wp_region_lit ?_
      refine wpList_val (v := ?_) rfl ?_ ?_
      rotate_left
      · (go_simp; (try (first | with_reducible rfl | (constructor <;> with_reducible rfl))))
      (try simp only [Act.put, nA, nB, nC])
      refine wpList_val (v := ?_) rfl ?_ ?_
      rotate_left
      · (go_simp; (try (first | with_reducible rfl | (constructor <;> with_reducible rfl))))
      (try simp only [Act.put, nA, nB, nC])
      refine wpList_val (v := ?_) rfl ?_ ?_
      rotate_left
      · (go_simp; (try (first | with_reducible rfl | (constructor <;> with_reducible rfl))))
      (try simp only [Act.put, nA, nB, nC])
      refine wpList_val (v := ?_) rfl ?_ ?_
      rotate_left
      · (go_simp; (try (first | with_reducible rfl | (constructor <;> with_reducible rfl))))
      (try simp only [Act.put, nA, nB, nC])
      refine wpList_val (v := ?_) rfl ?_ ?_
      rotate_left
      · (go_simp; (try (first | with_reducible rfl | (constructor <;> with_reducible rfl))))
      (try simp only [Act.put, nA, nB, nC])
      refine wpList_val (v := ?_) rfl ?_ ?_
      rotate_left
      · (go_simp; (try rw [kw]); (try with_reducible rfl))
      (try simp only [Act.put, nA, nB, nC])
      refine wpList_val (v := ?_) rfl ?_ ?_
      rotate_left
      · (go_simp; (try (first | with_reducible rfl | (constructor <;> with_reducible rfl))))
      (try simp only [Act.put, nA, nB, nC])
      refine wpList_val (v := ?_) rfl ?_ ?_
      rotate_left
      · (go_simp; (try (first | with_reducible rfl | (constructor <;> with_reducible rfl))))
      (try simp only [Act.put, nA, nB, nC])
      refine wpList_step (fun K hK => ?_)
      go_simp
      (refine (sub_any c _ y z _ (HS.out.upd.cellc HC.out) ((HS.out.upd.frozen hcb).trans HF.out)).mono ?_); (rw [GZ.out]); rintro e w3 ⟨rfl, hw3⟩; have HU := Lib.hid (HS.out.upd' hcb (show Upd c (H || clampH x (-M) M || satH y || satH z || satH (satV y - satV z)) w2 w3 from by rw [← hw3]; exact Upd.set c _ _)); clear hw3 HS sc; have HS := HU; clear HU; (rw [GL.out] at HS); have HA := Lib.hid (HS.out.down ((Below.refl _ _).alloc (Nat.le_refl _) (.cells #[.int .i64 d] 2))); have hbz := HS.out.b.lt
      (try dsimp only)
      (try simp only [Act.put, nA, nB, nC])
      refine hK _ _ ?_
      clear hK K
      refine wpList_act (v := ?_) (w' := ?_) rfl ?_ ?_
      rotate_left 2
      · (go_simp; (try (first | with_reducible rfl | (constructor <;> with_reducible rfl))))
      (try simp only [Act.put, nA, nB, nC])
      (refine wpList_app1 rfl (.tmp 36) (.tmp 45) rfl (bb + 1) rfl HA.out.own w3.heap.size 1 d rfl (by simp [go_sem]) (by omega) (by simp; omega) (w3.heap.size + 1) (by simp) ?_; intro g1 cp1 w4 hO1 hg1 hat1 hlt1; have HG := Lib.hid (HA.out.grown hg1 (hO1.congr (snoc_fun3 GD.out.symm))); clear hO1 hg1 hat1 hlt1 HA HS hbz)
      refine wpList_val (v := ?_) rfl ?_ ?_
      rotate_left
      · (go_simp; (try (first | with_reducible rfl | (constructor <;> with_reducible rfl))))
      (try simp only [Act.put, nA, nB, nC])
      refine wpList_nil ?_
      go_upto_region 8 with fail
      have sf := HG.out.s.free j
      have sc := HG.out.s.cell (i := j) j24
      refine wp_region_lit ?_
      refine wpList_val (v := ?_) rfl ?_ ?_
      rotate_left
      · (go_simp; (try (first | with_reducible rfl | (constructor <;> with_reducible rfl))))
      (try simp only [Act.put, nA, nB, nC])
      refine wpList_val (v := ?_) rfl ?_ ?_
      rotate_left
      · (go_simp; (try (first | with_reducible rfl | (constructor <;> with_reducible rfl))))
      (try simp only [Act.put, nA, nB, nC])
      refine wpList_val (v := ?_) rfl ?_ ?_
      rotate_left
      · (go_simp; (try rw [kw]); (try with_reducible rfl))
      (try simp only [Act.put, nA, nB, nC])
      refine wpList_val (v := ?_) rfl ?_ ?_
      rotate_left
      · (go_simp; (try (first | with_reducible rfl | (constructor <;> with_reducible rfl))))
      (try simp only [Act.put, nA, nB, nC])
      refine wpList_val (v := ?_) rfl ?_ ?_
      rotate_left
      · (go_simp; (try (first | with_reducible rfl | (constructor <;> with_reducible rfl))))
      (try simp only [Act.put, nA, nB, nC])
      refine wpList_done (w' := ?_) rfl ?_ ?_
      rotate_left
      · (go_simp; (try (first | with_reducible rfl | (constructor <;> with_reducible rfl))))
      (try simp only [Act.put, nA, nB, nC])
      refine wpList_nil ?_
      have HK := Lib.hid (HG.out.set j y)
      rw [← GS.out, ← HDD.out] at HK
      generalize w4.setCell ⟨w.heap.size, j, none⟩ (.int .i64 y) = W5 at *
      clear sf sc HG
      go_wp2_with fail
      go_roundw
      case rel => exact ⟨k + 1, _, by omega, by go_num, rfl, HK⟩
      case measure => simp [intOf]; omega
    · obtain rfl : k = n := by omega
      have d1 : decide (k < k) = false := by simp
      have d2 : decide ((k : Int) < (k : Int)) = false := by simp
      obtain ⟨F, hF⟩ : ∃ x, mvS S fr L k = x := ⟨_, rfl⟩
      obtain ⟨D, hD⟩ : ∃ x, mvD S fr L = x := ⟨_, rfl⟩
      obtain ⟨H, hH⟩ : ∃ x, (h || orB (mvB S fr L) k) = x := ⟨_, rfl⟩
      rw [hF, hD, hH] at R
      have HE := Lib.hid (And.intro hF (And.intro hD hH))
      clear hF hD hH
      have P0 := R.out.s
      have KC := Lib.hid (keep_any c H F wr (R.out.upd.cellc HC.out) ((R.out.upd.frozen hcb).trans HF.out))
      go_upto_region 10 with fail
      refine wp_region_lit ?_
      refine wpList_val (v := ?_) rfl ?_ ?_
      rotate_left
      · (go_simp; (try (first | with_reducible rfl | (constructor <;> with_reducible rfl))))
      (try simp only [Act.put, nA, nB, nC])
      refine wpList_val (v := ?_) rfl ?_ ?_
      rotate_left
      · refine Eq.trans (run_load_row 23 (.tmp 5) (by rfl) (w.heap.size) (by rfl) _ _ _ _ (P0) Tryz.underlying23 rfl (ist.trans (by rw [arrv_size]))) ?_; with_reducible rfl
      (try simp only [Act.put, nA, nB, nC])
      refine wpList_step (fun K hK => ?_)
      go_simp
      (refine KC.out.mono ?_); rintro e w2 ⟨rfl, hu⟩; have R1 := Lib.hid (R.out.upd' hcb hu); clear hu R P0 KC; have P1 := R1.out.r
      (try dsimp only)
      (try simp only [Act.put, nA, nB, nC])
      refine hK _ _ ?_
      clear hK K
      refine wpList_val (v := ?_) rfl ?_ ?_
      rotate_left
      · (go_simp; (try (first | with_reducible rfl | (constructor <;> with_reducible rfl))))
      (try simp only [Act.put, nA, nB, nC])
      refine wpList_done (w' := ?_) rfl ?_ ?_
      rotate_left
      · refine Eq.trans (run_store_row 23 (.tmp 8) (.tmp 55) (by rfl) (w.heap.size + 1) (by rfl) (by rfl) (P1) (ist.trans rfl)) ?_; with_reducible rfl
      (try simp only [Act.put, nA, nB, nC])
      refine wpList_val (v := ?_) rfl ?_ ?_
      rotate_left
      · (go_simp; (try (first | with_reducible rfl | (constructor <;> with_reducible rfl))))
      (try simp only [Act.put, nA, nB, nC])
      refine wpList_nil ?_
      have D1 := Lib.hid (P1.setRow (keepF F))
      have DU := Lib.hid (R1.out.upd.then' (below_row (Below.refl _ _) (show w.heap.size ≤ w.heap.size + 1 by omega) (arrv 24 (keepF F))))
      have DO := Lib.hid (R1.out.own.rowk (k := w.heap.size + 1) (arrv 24 (keepF F)) (by have := R1.out.lt; omega))
      have hbz := R1.out.lt
      generalize w2.setRow (w.heap.size + 1) (arrv 24 (keepF F)) = W3 at *
      clear P1 R1
      go_wp2_with fail
      refine bodyPost_ret_by (results_row1 Tryz.results35 _ _ (w.heap.size + 1) 23 (arrv 24 (keepF F)) (0, 0) _ rfl D1.out Tryz.underlying23 rfl (ist.trans (by rw [arrv_size])) v rfl) rfl ⟨v, ?_, ?_, ?_⟩
      · rw [HE.out.1]
      · rw [HE.out.2.1]; exact DO.out.raise (by omega)
      · rw [HE.out.1, HE.out.2.2]; exact DU.out
end Go.Proofs.YtgfklheepkgedaaGreat
/- A slice of vectors that a call builds by append: one of one vector, appended. -/
namespace Go.Proofs.YtgfklheepkgedaaGreat
open Go.RowKit
open Go
set_option maxRecDepth 100000
/-- The cells of n vectors. -/
def vcells (n : Nat) (L : Nat → Nat → Int) : List Value := (List.range n).flatMap fun i => [.int .i64 (L i 0), .int .i64 (L i 1), .int .i64 (L i 2)]
theorem vcells_succ (n : Nat) (L : Nat → Nat → Int) : vcells (n + 1) L = vcells n L ++ [.int .i64 (L n 0), .int .i64 (L n 1), .int .i64 (L n 2)] := by
  simp [vcells, List.range_succ, List.flatMap_append]
theorem vcells_len : ∀ (n : Nat) (L : Nat → Nat → Int), (vcells n L).length = n * 3
  | 0, _ => rfl
  | n + 1, L => by rw [vcells_succ, List.length_append, vcells_len n L]; simp; omega
theorem vcells_get {L : Nat → Nat → Int} : ∀ {n k : Nat}, k < n → ∀ j, j < 3 → (vcells n L)[k * 3 + j]? = some (.int .i64 (L k j))
  | 0, _, h, _, _ => by omega
  | n + 1, k, h, j, hj => by
    have hl := vcells_len n L
    rw [vcells_succ]
    by_cases e : k = n
    · subst e
      rw [List.getElem?_append_right (by omega), hl, show k * 3 + j - k * 3 = j by omega]
      obtain rfl | rfl | rfl : j = 0 ∨ j = 1 ∨ j = 2 := by omega
      all_goals rfl
    · rw [List.getElem?_append_left (by omega)]
      exact vcells_get (n := n) (k := k) (by omega) j hj
def OwnV (w : World) (B : Nat) (v : Value) (n : Nat) (L : Nat → Nat → Int) : Prop := w.ownsRow B 28 3 v n (vcells n L)
theorem OwnV.nil (w : World) (B : Nat) (L : Nat → Nat → Int) : OwnV w B (.slice none 0 0) 0 L := World.ownsRow_nil w B 28 3
theorem OwnV.kept {w w' : World} {B : Nat} {v : Value} {n : Nat} {L : Nat → Nat → Int} (h : OwnV w B v n L) (hs : ∀ k, B ≤ k → k < w.heap.size → some k = v.ownBlock → w'.heap[k]? = w.heap[k]?) : OwnV w' B v n L := by
  refine ⟨h.1, ?_⟩
  rcases h.2 with hn | ⟨g, cap, cur, rfl, hb, hgg, rest⟩
  · exact .inl hn
  · refine .inr ⟨g, cap, cur, rfl, hb, ?_, rest⟩
    rw [hs g hb (Array.getElem?_eq_some_iff.1 hgg).1 rfl]
    exact hgg
theorem OwnV.below {w w' : World} {B : Nat} {v : Value} {n : Nat} {L : Nat → Nat → Int} (h : OwnV w B v n L) (b : Below w.heap.size w w') : OwnV w' B v n L := h.kept fun k _ hk _ => b.block k hk
theorem OwnV.upd {w w' : World} {B : Nat} {v : Value} {n : Nat} {L : Nat → Nat → Int} (h : OwnV w B v n L) {c : Addr} {f : Bool} (u : Upd c f w w') (hc : c.block < B) : OwnV w' B v n L := h.kept fun k hB hk _ => u.block hk (by omega)
theorem OwnV.row {w : World} {B k : Nat} {v : Value} {n : Nat} {L : Nat → Nat → Int} (h : OwnV w B v n L) (cs : Array Value) (hk : v.ownBlock ≠ some k) : OwnV (w.setRow k cs) B v n L := h.kept fun j _ _ e => Go.setRow_other w k j cs (fun e2 => hk (by rw [← e, e2]))
theorem OwnV.grown {w w' : World} {B : Nat} {v : Value} {n : Nat} {L : Nat → Nat → Int} (h : OwnV w B v n L) {r : Option Nat} (g : w.grownBy w' r) (hn : ∀ k, v.ownBlock = some k → r ≠ some k) : OwnV w' B v n L :=
  h.kept fun k _ hk e => g.block k hk (fun e2 => hn k e.symm e2.symm)
theorem OwnV.blk {w : World} {B : Nat} {v : Value} {n : Nat} {L : Nat → Nat → Int} (h : OwnV w B v n L) {g : Nat} (e : v.ownBlock = some g) : B ≤ g ∧ g < w.heap.size := by
  rcases h.2 with ⟨rfl, _⟩ | ⟨g', cap, cur, rfl, hb, hgg, _⟩
  · cases e
  · simp [Value.ownBlock] at e; subst e; exact ⟨hb, (Array.getElem?_eq_some_iff.1 hgg).1⟩
/-- As a slice: its vectors. -/
theorem OwnV.slc {w : World} {B : Nat} {v : Value} {n : Nat} {L : Nat → Nat → Int} (h : OwnV w B v n L) :
    (n = 0 ∧ v = .slice none 0 0) ∨ ∃ g cp, v = .slice (some ⟨g, 0, none⟩) n cp ∧ B ≤ g ∧ g < w.heap.size ∧ VLs w g 0 n L := by
  rcases h.2 with ⟨hv, h0⟩ | ⟨g, cap, cur, rfl, hb, hgg, h1, h2, h3, h4⟩
  · exact .inl ⟨h0, hv⟩
  · refine .inr ⟨g, cap, rfl, hb, (Array.getElem?_eq_some_iff.1 hgg).1, fun j hj k hk => ?_⟩
    rw [Nat.zero_add, cell_of_row w g (j * 3 + k) cur 28 (0, 0) hgg]
    have hh := vcells_get (L := L) hj k hk
    rw [← h4, List.getElem?_take] at hh
    split at hh
    · simpa using hh
    · cases hh
theorem info_V' : ∃ i, Tryz.prog.info? 28 = some i ∧ i.zero = some (.agg #[.int .i64 0, .int .i64 0, .int .i64 0]) ∧ i.size = 3 ∧ i.bytes = 24 := by
  have h : (Tryz.prog.info? 28).map (fun i => (i.zero, i.size, i.bytes)) = some (some (.agg #[.int .i64 0, .int .i64 0, .int .i64 0]), 3, 24) := by kernel_rfl
  cases e : Tryz.prog.info? 28 with
  | none => rw [e] at h; cases h
  | some i => rw [e] at h; simp at h; exact ⟨i, rfl, h.1, h.2.1, h.2.2⟩
theorem run_appV {w : World} (B : Nat) {v : Value} {n : Nat} {L : Nat → Nat → Int} (hown : OwnV w B v n L) (nb c : Nat) (hx : Blk w nb 28 3 (L n)) (hn : n ≤ 1000000) (hB : B ≤ w.heap.size) (ty : TypeId) (H : Nat) (hH : w.heap.size = H) :
    ∃ g cap w', (Builtin.append_ #[84, 84] ty #[v, .slice (some ⟨nb, 0, none⟩) 1 c]).run Tryz.prog w = .ok (.slice (some ⟨g, 0, none⟩) (n + 1) cap) w' ∧
      OwnV w' B (.slice (some ⟨g, 0, none⟩) (n + 1) cap) (n + 1) L ∧ w.grownBy w' v.ownBlock ∧ (v.ownBlock = some g ∨ g = H) ∧ g < w'.heap.size := by
  obtain ⟨i, hi, hz, hs, hb⟩ := info_V'
  obtain ⟨g, cap, w', h1, h2, h3, h4, h5⟩ := run_append_lies (P := Tryz.prog) w 84 ty B 28 i _ 3 24 Tryz.underlying84 hi hz hs hb rfl (by decide) v n (vcells n L) hown ⟨nb, 0, none⟩ 1 c [.int .i64 (L n 0), .int .i64 (L n 1), .int .i64 (L n 2)] rfl
    (fun j u hu => by
      have hj : j < 3 := (List.getElem?_eq_some_iff.1 hu).1
      have hc := hx.cell (i := j) hj
      obtain rfl | rfl | rfl : j = 0 ∨ j = 1 ∨ j = 2 := by omega
      · simp at hu; rw [← hu]; simpa [Addr.add] using hc
      · simp at hu; rw [← hu]; simpa [Addr.add] using hc
      · simp at hu; rw [← hu]; simpa [Addr.add] using hc) (fun u hu => by simp at hu; rcases hu with rfl | rfl | rfl <;> rfl) (by decide) (by unfold maxLen; omega) (by omega) hB H hH
  exact ⟨g, cap, w', h1, by unfold OwnV; rw [vcells_succ]; exact h2, h3, h4, h5⟩
theorem step_appV {w : World} {ops : Array Oper} {o : Oper} {a : Act} {K : Act → World → Prop} {Q : Exit → Act → World → Prop} {E : Prop} (hgd : o.guard = none) (s x : Operand)
    (ho : o.op = .call { callee := .builtin .append, args := #[s, x], argTypes := #[84, 84] })
    (B : Nat) {v : Value} {n : Nat} {L : Nat → Nat → Int} (hs : a.eval s = v) (hown : OwnV w B v n L) (nb c : Nat) (hx : a.eval x = .slice (some ⟨nb, 0, none⟩) 1 c) (hy : Blk w nb 28 3 (L n)) (hn : n ≤ 1000000) (hB : B ≤ w.heap.size) (H : Nat) (hH : w.heap.size = H)
    (h : ∀ g cap w', OwnV w' B (.slice (some ⟨g, 0, none⟩) (n + 1) cap) (n + 1) L → w.grownBy w' v.ownBlock → (v.ownBlock = some g ∨ g = H) → g < w'.heap.size → K (a.put o.dst (.slice (some ⟨g, 0, none⟩) (n + 1) cap)) w') :
    if Region.wanted o (yielded ops a.tmps) = true then Oper.wp Tryz.prog o a w K Q else E := by
  have hw : Region.wanted o (yielded ops a.tmps) = true := by simp [Region.wanted, hgd]
  rw [if_pos hw]
  obtain ⟨g, cap, w', hr, h2, h3, h4, h5⟩ := run_appV B hown nb c hy hn hB o.type H hH
  unfold Oper.wp execOp
  simp only [ho, resolve, invoke, builtin, Sem.run_bind, Sem.run_pure, Result.andThen_ok, List.map_toArray, List.map_cons, List.map_nil, hs, hx, hr]
  exact h g cap w' h2 h3 h4 h5
theorem fillv1 (A : Nat → Int) (Z : Array Value) (hZ : Z = arrv 3 (fun _ => 0)) : Instr.fill (fun i => some (i * 3, 3)) Z [(0, .agg (arrv 3 A))] = some (arrv 3 A) := by
  subst hZ; kernel_rfl
theorem zrange3 (Z : Array Value) (hZ : Z = arrv 3 (fun _ => 0)) : (Array.range (1 * 3)).map (fun i => Z[i % Z.size]!) = arrv 3 (fun _ => 0) := by
  subst hZ; kernel_rfl
theorem run_bslv1 (A : Nat → Int) (w : World) : (Instr.buildSlice 84 1 #[(0, .agg (arrv 3 A))]).run Tryz.prog w = .ok (.slice (some ⟨w.heap.size, 0, none⟩) 1 1) (w.alloc (.cells (arrv 3 A) 28)) := by
  have hz : (zeroValue 28).run Tryz.prog w = .ok (.agg (arrv 3 (fun _ => 0))) w := by kernel_rfl
  have hs : (sizeOf 28).run Tryz.prog w = .ok 3 w := by kernel_rfl
  unfold Instr.buildSlice
  simp only [Sem.run_bind, run_underlying Tryz.underlying84, Result.andThen_ok, hs]
  rw [if_neg (by decide), if_neg (by decide)]
  have hf : Instr.fill (fun i => some (i * 3, 3)) (Array.map (fun x => (Value.agg (arrv 3 (fun _ => 0))).cells[x % (Value.agg (arrv 3 (fun _ => 0))).cells.size]!) (Array.range (1 * 3))) [(0, Value.agg (arrv 3 A))] = some (arrv 3 A) :=
    fillv1 A _ (zrange3 (arrv 3 (fun _ => 0)) rfl)
  simp only [Sem.run_bind, hz, Result.andThen_ok, Sem.run_pure, hf]
  simp [newRow, newObj, go_sem]
  rfl
theorem wp_bslv1 {o : Oper} {a : Act} {w : World} {K : Act → World → Prop} {Q : Exit → Act → World → Prop} {A : Nat → Int} (x : Operand) (ho : o.op = .buildSlice 84 1 #[(0, x)])
    (hx : a.eval x = .agg (arrv 3 A)) (h : K (a.put o.dst (.slice (some ⟨w.heap.size, 0, none⟩) 1 1)) (w.alloc (.cells (arrv 3 A) 28))) : o.wp Tryz.prog a w K Q := by
  unfold Oper.wp execOp
  simp only [ho, Sem.run_bind, List.map_toArray, List.map_cons, List.map_nil, hx, run_bslv1 A w, Result.andThen_ok]
  exact h
end Go.Proofs.YtgfklheepkgedaaGreat
