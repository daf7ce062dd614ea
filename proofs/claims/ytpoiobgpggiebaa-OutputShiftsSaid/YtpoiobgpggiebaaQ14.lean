/- Contracts of the program's functions and plain laws, part 14: they hold for all arguments. -/
import Derived.Test.YtpoiobgpggiebaaQ10
import Derived.Test.YtpoiobgpggiebaaQ11
import Derived.Test.YtpoiobgpggiebaaQ13
import Derived.Deep.MidRow
import Derived.Test.YtpoiobgpggiebaaQ03
import Derived.Test.YtpoiobgpggiebaaQ06
/- Contracts of package vec (2): Add. -/
namespace Go.Proofs.Ytpoiobgpggiebaa
open Go.RowKit
set_option maxRecDepth 100000
open Go in
theorem run_load_mid3 {P : Program} {o : Oper} {ev : Operand → Value} {w : World} (ty : TypeId) (x : Operand) (ho : o.op = .load ty x) (b off n : Nat) (hx : ev x = .pointer (some ⟨b, off, none⟩)) (f : Nat → Int)
    (hc : ∀ j, j < n → w.cell? ⟨b, off + j, none⟩ = some (.int .i64 (f j))) (d : TypeDesc) (hu : P.underlying ty = some d) (hd : d.isRow = true) (hi : (P.info? ty).map (·.size) = some n) :
    (execOp ev o).run P w = .ok (.value (.agg (arrv n f))) w := by
  have h := run_loadVar_mid (P := P) w b off ty (arrv n f).toList d (fun j v hv => by
    have hj : j < n := by
      have := (List.getElem?_eq_some_iff.1 hv).1
      simpa [arrv_size] using this
    rw [Array.getElem?_toList, arrv_get hj] at hv
    injection hv with hv
    rw [← hv]; exact hc j hj) hu hd (by rw [hi, Array.length_toList, arrv_size])
  rw [Array.toArray_toList] at h
  unfold execOp
  simp [ho, hx, Instr.loadAt, Instr.sureAddr, Sem.run_bind, h]
theorem ownBlock_lt2 {w : World} {B T : Nat} {v : Value} {n : Nat} {L : Nat → Int} (h : Own w B T v n L) {g : Nat} (e : v.ownBlock = some g) : B ≤ g ∧ g < w.heap.size := World.ownsRow.lt h g e
theorem snoc_fun2 {n : Nat} {L : Nat → Int} {y : Int} (e : y = L n) : ∀ i, i < n + 1 → upd L n y i = L i := fun i _ => by
  unfold upd; split
  · rename_i h; rw [h, e]
  · rfl
/-- Vectors side by side. -/
def VLs (w : World) (p o n : Nat) (L : Nat → Nat → Int) : Prop := ∀ j, j < n → ∀ k, k < 3 → w.cell? ⟨p, o + j * 3 + k, none⟩ = some (.int .i64 (L j k))
theorem VLs.upd {w w' : World} {p o n : Nat} {L : Nat → Nat → Int} {c : Addr} {h h' : Bool} (s : VLs w p o n L) (hc : w.cell? c = some (.bool h)) (u : Upd c h' w w') : VLs w' p o n L := fun j hj k hk => by
  have q := s j hj k hk
  rw [u.cell (World.block_lt_of_cell? w _ q) (fun e => by rw [e] at hc; rw [hc] at q; cases q), q]
theorem VLs.below {w w' : World} {p o n : Nat} {L : Nat → Nat → Int} (s : VLs w p o n L) (u : Below w.heap.size w w') : VLs w' p o n L := fun j hj k hk => by
  have q := s j hj k hk
  exact (u.cell (World.block_lt_of_cell? w _ q)).trans q
def vaV (L : Nat → Nat → Int) (n : Nat) : Nat → Int := fun i => satV (sumS (fun j => L j i) n)
def vaH (L : Nat → Nat → Int) (n : Nat) : Nat → Bool := fun i => sumB (fun j => L j i) n || satH (sumS (fun j => L j i) n)
def vaK (L : Nat → Nat → Int) (n k : Nat) : Nat → Int := fun i => if i < k then vaV L n i else 0
/-- The blocks of vec.Add. -/
structure VaR (c : Addr) (h : Bool) (p o n : Nat) (L : Nat → Nat → Int) (F : Nat → Int) (w wr : World) : Prop where
  upd : Upd c h w wr
  r : Blk wr w.heap.size 43 3 (fun _ => 0)
  ou : Blk wr (w.heap.size + 1) 43 3 F
  ls : VLs wr p o n L
  cell : wr.cell? c = some (.bool h)
  free : wr.frozen? c = false
  cb : c.block < w.heap.size
  pb : p < w.heap.size
theorem VaR.upd' {c : Addr} {h h' : Bool} {p o n : Nat} {L : Nat → Nat → Int} {F : Nat → Int} {w wr w' : World} (s : VaR c h p o n L F w wr) (u : Upd c h' wr w') : VaR c h' p o n L F w w' := by
  have hcb := s.cb
  exact ⟨s.upd.trans u, s.r.upd u (by omega), s.ou.upd u (by omega), s.ls.upd s.cell u, u.cellc s.cell, (u.frozen (World.block_lt_of_cell? _ _ s.cell)).trans s.free, s.cb, s.pb⟩
theorem VaR.down {c : Addr} {h : Bool} {p o n : Nat} {L : Nat → Nat → Int} {F : Nat → Int} {w wr w' : World} (s : VaR c h p o n L F w wr) (u : Below wr.heap.size wr w') : VaR c h p o n L F w w' :=
  ⟨s.upd.then u, s.r.below u, s.ou.below u, s.ls.below u, (u.cell (World.block_lt_of_cell? _ _ s.cell)).trans s.cell, (u.frozen (World.block_lt_of_cell? _ _ s.cell)).trans s.free, s.cb, s.pb⟩
/-- Nothing below the own blocks has turned. -/
theorem VaR.down2 {c : Addr} {h : Bool} {p o n : Nat} {L : Nat → Nat → Int} {F : Nat → Int} {w wr w' : World} (s : VaR c h p o n L F w wr) (u : Below (w.heap.size + 1 + 1) wr w') (hz : w.heap.size + 1 + 1 ≤ wr.heap.size) : VaR c h p o n L F w w' := by
  have hcb := s.cb
  have hpb := s.pb
  exact ⟨s.upd.then' (u.mono (by omega)), (u.block _ (by omega)).trans s.r, (u.block _ (by omega)).trans s.ou, fun j hj k hk => (u.cell (show p < _ by omega)).trans (s.ls j hj k hk), (u.cell (by omega)).trans s.cell, (u.frozen (by omega)).trans s.free, s.cb, s.pb⟩
theorem VaR.set {c : Addr} {h : Bool} {p o n : Nat} {L : Nat → Nat → Int} {F : Nat → Int} {w wr : World} (s : VaR c h p o n L F w wr) (i : Nat) (x : Int) : VaR c h p o n L (Go.Proofs.Ytpoiobgpggiebaa.upd F i x) w (wr.setCell ⟨w.heap.size + 1, i, none⟩ (.int .i64 x)) := by
  have hcb := s.cb
  have hpb := s.pb
  exact ⟨s.upd.setCell (by first | omega | (simp; done) | (simp; omega)) _, s.r.other (by first | omega | (simp; done) | (simp; omega)) _, s.ou.set _ _, fun j hj k hk => by rw [World.cell?_setCell_other _ _ _ _ (fun e => by have := congrArg Addr.block e; dsimp only at this; omega)]; exact s.ls j hj k hk, by rw [World.cell?_setCell_other _ _ _ _ (fun e => by rw [← e] at hcb; dsimp only at hcb; omega)]; exact s.cell, by rw [World.frozen?_setCell]; exact s.free, s.cb, s.pb⟩
theorem VaR.congr {c : Addr} {h h' : Bool} {p o n : Nat} {L : Nat → Nat → Int} {F G : Nat → Int} {w wr : World} (s : VaR c h p o n L F w wr) (eh : h = h') (e : ∀ i, i < 3 → F i = G i) : VaR c h' p o n L G w wr := by
  subst eh; exact ⟨s.upd, s.r, s.ou.congr e, s.ls, s.cell, s.free, s.cb, s.pb⟩
theorem va_start (c : Addr) (h : Bool) (p o n : Nat) (L : Nat → Nat → Int) (w : World) (hc : w.cell? c = some (.bool h)) (hf : w.frozen? c = false) (hn : 0 < n) (hL : VLs w p o n L) :
    VaR c h p o n L (fun _ => 0) w ((w.alloc (.cells #[.int .i64 0, .int .i64 0, .int .i64 0] 43)).alloc (.cells #[.int .i64 0, .int .i64 0, .int .i64 0] 43)) := by
  have hcb := World.block_lt_of_cell? w c hc
  have bl : Below w.heap.size w ((w.alloc (.cells #[.int .i64 0, .int .i64 0, .int .i64 0] 43)).alloc (.cells #[.int .i64 0, .int .i64 0, .int .i64 0] 43)) := by (repeat (first | with_reducible exact Below.refl _ _ | with_reducible apply Below.drew | (with_reducible refine below_drewN ?_ _) | (with_reducible refine Below.alloc ?_ (by (try simp) <;> omega) _) | (with_reducible refine Below.setCell ?_ (by (try simp) <;> omega) _)))
  refine ⟨Upd.then (Upd.refl hc) bl, ?_, ?_, hL.below bl, (bl.cell hcb).trans hc, (bl.frozen hcb).trans hf, hcb, World.block_lt_of_cell? w _ (hL 0 hn 0 (by decide))⟩
  · rw [zv3]; exact (Blk.new w _ 3 _).alloc _
  · rw [zv3]; exact Blk.new1 w _ _ 3 _
theorem VaR.row {c : Addr} {h : Bool} {p o n : Nat} {L : Nat → Nat → Int} {F : Nat → Int} {w wr : World} (s : VaR c h p o n L F w wr) (hz : w.heap.size + 1 + 1 ≤ wr.heap.size) (G : Nat → Int) :
    VaR c h p o n L F w ((wr.alloc (.cells #[.int .i64 0, .int .i64 0, .int .i64 0] 43)).setRow wr.heap.size (arrv 3 G)) ∧ Blk ((wr.alloc (.cells #[.int .i64 0, .int .i64 0, .int .i64 0] 43)).setRow wr.heap.size (arrv 3 G)) wr.heap.size 43 3 G ∧ Below wr.heap.size wr ((wr.alloc (.cells #[.int .i64 0, .int .i64 0, .int .i64 0] 43)).setRow wr.heap.size (arrv 3 G)) := by
  have b0 : Below wr.heap.size wr ((wr.alloc (.cells #[.int .i64 0, .int .i64 0, .int .i64 0] 43)).setRow wr.heap.size (arrv 3 G)) := below_row ((Below.refl _ _).alloc (Nat.le_refl _) _) (Nat.le_refl _) _
  refine ⟨s.down b0, ?_, b0⟩
  rw [zv3]; exact (Blk.new wr _ 3 _).setRow G
set_option maxHeartbeats 16000000 in
theorem vadd_any (c : Addr) (h : Bool) (p o ca n : Nat) (L : Nat → Nat → Int) (w : World) (hc : w.cell? c = some (.bool h)) (hf : w.frozen? c = false) (hn : 0 < n) (hn2 : n ≤ 100) (hL : VLs w p o n L) :
    Calls Try.prog 18 #[.pointer (some c), .slice (some ⟨p, o, none⟩) n ca] w fun e w' => e = .returned (.agg (arrv 3 (vaV L n))) ∧ Upd c (h || orB (vaH L n) 3) w w' := by
  have S0 := Lib.hid (va_start c h p o n L w hc hf hn hL)
  clear hc hf hL
  go_enter Try.func18, Try.ntmps18
  go_upto_region 2 with fail
  have hz0 : w.heap.size + 1 + 1 ≤ ((w.alloc (.cells #[.int .i64 0, .int .i64 0, .int .i64 0] 43)).alloc (.cells #[.int .i64 0, .int .i64 0, .int .i64 0] 43)).heap.size := by simp
  generalize (w.alloc (.cells #[.int .i64 0, .int .i64 0, .int .i64 0] 43)).alloc (.cells #[.int .i64 0, .int .i64 0, .int .i64 0] 43) = W0 at *
  go_wp2_with fail
  go_loopw [10] (fun i wr => ∃ k : Nat, k ≤ 3 ∧ i = .int .i64 k ∧ w.heap.size + 1 + 1 ≤ wr.heap.size ∧ Hid (VaR c (h || orB (vaH L n) k) p o n L (vaK L n k) w wr)) (fun i _ => 3 - (intOf i).toNat)
  case atStart => exact ⟨0, by omega, rfl, hz0, Lib.hid (S0.out.congr (by simp [orB]) fun i hi => by simp [vaK])⟩
  case round =>
    obtain ⟨k, hk, rfl, hz, R⟩ := hrel
    clear S0 hz0
    by_cases hlt : k < 3
    · have d1 : decide ((k : Int) < 3) = true := by simp; omega
      have k0 : (0 : Int) ≤ (k : Int) := Int.natCast_nonneg _
      have k1 : (k : Int) < 3 := by omega
      have HK := Lib.hid (show (h || orB (vaH L n) (k + 1)) = (h || orB (vaH L n) k || sumB (fun j => L j k) n || satH (sumS (fun j => L j k) n)) by simp [vaH, orB, Bool.or_assoc])
      obtain ⟨H, hH⟩ : ∃ x, (h || orB (vaH L n) k) = x := ⟨_, rfl⟩
      rw [hH] at R HK
      clear hH
      go_upto_region 6 with fail
      go_wp2_with fail
      go_loopw [7, 15] (fun u j wr => ∃ (q : Nat) (v : Value), q ≤ n ∧ u = v ∧ j = .int .i64 q ∧ w.heap.size + 1 + 1 ≤ wr.heap.size ∧ Hid (VaR c H p o n L (vaK L n k) w wr ∧ Own wr (w.heap.size + 1 + 1) 2 v q (fun j => L j k))) (fun _ j _ => n - (intOf j).toNat)
      case atStart => exact ⟨0, _, by omega, rfl, rfl, hz, Lib.hid ⟨R.out, Own.nil _ _ _ _⟩⟩
      case round =>
        obtain ⟨q, v, hq, hv, rfl, hz2, T⟩ := hrel
        clear R hz
        subst hv
        by_cases hqn : q < n
        · have e1 : decide (q < n) = true := by simpa using hqn
          have q0 : (0 : Int) ≤ (q : Int) := Int.natCast_nonneg _
          have q1 : (q : Int) < (n : Int) := by omega
          have LR := Lib.hid (T.out.1.ls q hqn)
          have O1 := Lib.hid T.out.2
          have V1 := Lib.hid T.out.1
          clear T
          go_upto_region 8 with fail
          refine wp_region_lit ?_
          refine wpList_val (v := ?_) rfl ?_ ?_
          rotate_left
          · (go_simp; (try (first | with_reducible rfl | (constructor <;> with_reducible rfl))))
          (try simp only [Act.put, nA, nB, nC])
          refine wpList_val (v := ?_) rfl ?_ ?_
          rotate_left
          · (refine Eq.trans (run_load_mid3 43 (.tmp 17) (by rfl) p (o + q * 3) 3 (by rfl) (L q) (fun j hj => LR.out j hj) _ Try.underlying43 rfl iv3) ?_; with_reducible rfl)
          (try simp only [Act.put, nA, nB, nC])
          refine wpList_act (v := ?_) (w' := ?_) rfl ?_ ?_
          rotate_left 2
          · (go_simp; (try (first | with_reducible rfl | (constructor <;> with_reducible rfl))))
          (try simp only [Act.put, nA, nB, nC])
          have NB := Lib.hid (V1.out.row hz2 (L q)); (refine wpList_done (w' := ?_) rfl ?_ ?_); rotate_left; (focus (refine Eq.trans (run_store_row 43 (.tmp 9) (.tmp 18) (by rfl) (wr.heap.size) (by rfl) (by rfl) (show Blk (wr.alloc (.cells #[.int .i64 0, .int .i64 0, .int .i64 0] 43)) wr.heap.size 43 3 (fun _ => 0) by rw [zv3]; exact Blk.new _ _ _ _) (iv3.trans rfl)) ?_; with_reducible rfl))
          refine wpList_nil ?_
          have O2 := Lib.hid (O1.out.below NB.out.2.2)
          have V2 := Lib.hid NB.out.1
          have xc := NB.out.2.1.cell hlt
          have hzw : wr.heap.size < ((wr.alloc (.cells #[.int .i64 0, .int .i64 0, .int .i64 0] 43)).setRow wr.heap.size (arrv 3 (L q))).heap.size := NB.out.2.1.lt
          generalize (wr.alloc (.cells #[.int .i64 0, .int .i64 0, .int .i64 0] 43)).setRow wr.heap.size (arrv 3 (L q)) = W2 at *
          obtain ⟨b, hb⟩ : ∃ b, wr.heap.size = b := ⟨_, rfl⟩
          have hz3 : w.heap.size + 1 + 1 ≤ W2.heap.size := by omega
          rw [hb] at xc ⊢
          obtain ⟨y, hy⟩ : ∃ y, L q k = y := ⟨_, rfl⟩
          rw [hy] at xc
          have HY := Lib.hid hy.symm
          clear NB O1 V1 LR hy hb hzw hz2
          go_upto_region 9 with fail
          go_upto_region 10 with (refine wpList_app1 rfl (.tmp 19) (.tmp 23) rfl (w.heap.size + 1 + 1) rfl (O2.out.alloc _) W2.heap.size 1 y rfl (by simp [go_sem]) (by omega) (by simp; omega) (W2.heap.size + 1) (by simp) ?_; intro g1 cp1 w3 hO1 hg1 hat1 hlt1; have HO1 := Lib.hid hO1; have HG1 := Lib.hid hg1; clear hO1 hg1 hat1)
          have hB := below_grown ((Below.refl (w.heap.size + 1 + 1) W2).alloc (by omega) (.cells #[.int .i64 y] 2)) HG1.out (fun j hj => (ownBlock_lt2 O2.out hj).1) (by simp; omega)
          have V3 := Lib.hid (V2.out.down2 hB hz3)
          have hz4 : w.heap.size + 1 + 1 ≤ w3.heap.size := by have := hB.size; omega
          have O3 := Lib.hid (HO1.out.congr (snoc_fun2 HY.out))
          clear hB HO1 HG1 O2 V2 HY xc hz3
          go_wp2_with fail
          go_roundw
          case rel => exact ⟨q + 1, _, by omega, rfl, by go_num, hz4, Lib.hid ⟨V3.out, O3.out⟩⟩
          case measure => simp [intOf]; omega
        · have hq2 : q = n := by omega
          subst hq2
          have e1 : decide (q < q) = false := by simp
          obtain ⟨g, cp, rfl, hg1, hg2, hg3⟩ := T.out.2.slc hn
          have V1 := Lib.hid T.out.1
          have FC := Lib.hid (fadd_any c H (fun j => L j k) g 0 cp q wr V1.out.cell V1.out.free hn2 hg3)
          clear T hg1 hg2 hg3
          go_upto_region 11 with fail
          go_wp2_with (go_at_call 36; (refine FC.out.mono ?_); rintro e w4 ⟨rfl, hu4⟩; have hz4 := hu4.size; have V4 := Lib.hid (V1.out.upd' hu4); clear hu4 FC V1; have a0 := V4.out.ou.cell hlt; have a1 := V4.out.ou.free k)
          go_roundw
          case rel =>
            refine ⟨k + 1, by omega, by go_num, by rw [setCell_size]; omega, Lib.hid ((V4.out.set k _).congr HK.out.symm fun i hi => ?_)⟩
            simp only [Go.Proofs.Ytpoiobgpggiebaa.upd, vaK]
            by_cases h1 : i = k
            · subst h1; rw [if_pos rfl, if_pos (by omega)]; rfl
            · rw [if_neg h1]
              by_cases h2 : i < k
              · rw [if_pos h2, if_pos (by omega)]
              · rw [if_neg h2, if_neg (by omega)]
          case measure => simp [intOf]; omega
    · have hk3 : k = 3 := by omega
      subst hk3
      have R2 := R.out.congr rfl (G := vaV L n) fun i hi => by simp only [vaK]; rw [if_pos hi]
      have U := Lib.hid R2.upd
      have B0 := R2.ou
      have B1 := R2.r
      clear R R2
      rw [show ((3 : Nat) : Int) = 3 from rfl]
      go_wp2_with (first | (refine wpList_load_row rfl 43 _ rfl (w.heap.size + 1) rfl 43 _ (0, 0) _ (B0) Try.underlying43 rfl (iv3.trans (by rw [arrv_size])) ?_) | (refine wpList_store_row rfl 43 _ _ rfl (w.heap.size) _ rfl rfl 43 _ (B1) (iv3.trans (by rw [arrv_size])) (by rw [arrv_size, arrv_size]) (oneCell_arrv _ _) ?_))
      refine bodyPost_ret (results_cell_row Try.results18 _ _ w.heap.size 43 (arrv 3 (vaV L n)) (0, 0) _ rfl (setRow_heap _ _ _ _ _ _ B1) Try.underlying43 rfl (iv3.trans (by rw [arrv_size]))) rfl ⟨rfl, ?_⟩
      exact U.out.then' (below_row (Below.refl _ _) (by omega) _)
end Go.Proofs.Ytpoiobgpggiebaa
/- Contract of fx.MulDiv. -/
namespace Go.Proofs.Ytpoiobgpggiebaa
open Go.RowKit
set_option maxRecDepth 100000
theorem mdiv_walk (c : Addr) (h : Bool) (a b d x y z A V : Int) (H : Bool) (w : World) (hc : w.cell? c = some (.bool h)) (hf : w.frozen? c = false)
    (hx : satV a = x) (hy : satV b = y) (hz : satV d = z)
    (hm : ∀ w, Calls Try.prog 43 #[.int .i64 x, .int .i64 y] w fun e w' => e = .returned (.agg #[.int .i64 (hi64 A), .int .u64 (lo64 A)]) ∧ Below w.heap.size w w')
    (hr : ∀ w, w.cell? c = some (.bool (h || satH a || satH b || satH d)) → w.frozen? c = false → Calls Try.prog 68 #[.pointer (some c), .agg #[.int .i64 (hi64 A), .int .u64 (lo64 A)], .int .i64 z] w fun e w' =>
      e = .returned (.int .i64 V) ∧ Upd c H w w') :
    Calls Try.prog 77 #[.pointer (some c), .int .i64 a, .int .i64 b, .int .i64 d] w fun e w' => e = .returned (.int .i64 V) ∧ Upd c H w w' := by
  have hcb := World.block_lt_of_cell? w c hc
  have c1 : (w.setCell c (.bool (h || satH a))).cell? c = some (.bool (h || satH a)) := World.cell?_setCell_same _ _ _ hc
  have c2 : ((w.setCell c (.bool (h || satH a))).setCell c (.bool (h || satH a || satH b))).cell? c = some (.bool (h || satH a || satH b)) := World.cell?_setCell_same _ _ _ c1
  have HM := Lib.hid hm
  have HR := Lib.hid hr
  have C2 := Lib.hid c2
  clear hm hr c2
  go_enter Try.func77, Try.ntmps77
  go_wp2_with fail
  refine (sat_any c h a _ hc hf).mono ?_; rintro e w' ⟨rfl, rfl⟩
  go_wp2_with fail
  refine (sat_any c _ b _ c1 (by simp [hf])).mono ?_; rintro e w' ⟨rfl, rfl⟩
  have HW := Lib.hid (Upd.trans (Upd.set c (h || satH a) w) (Upd.set c (h || satH a || satH b) _))
  have F2 : ((w.setCell c (.bool (h || satH a))).setCell c (.bool (h || satH a || satH b))).frozen? c = false := by simp [hf]
  have Z2 := Upd.size HW.out
  obtain ⟨w2, hw2⟩ : ∃ w2, (w.setCell c (.bool (h || satH a))).setCell c (.bool (h || satH a || satH b)) = w2 := ⟨_, rfl⟩
  rw [hw2] at HW C2 F2 Z2 ⊢
  clear hw2 c1 hc hf
  go_wp2_with fail
  refine (HM.out _).mono ?_; rintro e w3 ⟨rfl, hb3⟩
  have k1 : w3.cell? c = some (.bool (h || satH a || satH b)) := (hb3.cell (by omega)).trans C2.out
  have k2 : w3.frozen? c = false := (hb3.frozen (by omega)).trans F2
  go_wp2_with fail
  refine (sat_any c _ d _ k1 k2).mono ?_; rintro e w' ⟨rfl, rfl⟩
  have k3 : (w3.setCell c (.bool (h || satH a || satH b || satH d))).cell? c = some (.bool (h || satH a || satH b || satH d)) := World.cell?_setCell_same _ _ _ k1
  go_wp2_with fail
  refine (HR.out _ k3 (by simp [k2])).mono ?_; rintro e w4 ⟨rfl, hu4⟩
  go_wp2_with fail
  go_ret
  refine ⟨rfl, ?_⟩
  exact HW.out.trans (Upd.after hb3 ((Upd.set c _ w3).trans hu4))
theorem mdiv_any (c : Addr) (h : Bool) (a b d : Int) (w : World) (hc : w.cell? c = some (.bool h)) (hf : w.frozen? c = false) :
    Calls Try.prog 77 #[.pointer (some c), .int .i64 a, .int .i64 b, .int .i64 d] w fun e w' => e = .returned (.int .i64 (mdivV a b d)) ∧ Upd c (h || mdivH a b d) w w' := by
  have ha := satV_bd a
  have hb := satV_bd b
  have hd := satV_bd d
  have hp := prod_bd a b
  have e2 : (h || mdivH a b d) = ((h || satH a || satH b || satH d) || byH (satV a * satV b) (satV d)) := by simp [mdivH, Bool.or_assoc]
  rw [e2]
  exact mdiv_walk c h a b d _ _ _ _ _ _ w hc hf rfl rfl rfl (fun w => mul_any _ _ _ w (by omega) (by omega) (by omega) (by omega) rfl (by omega) (by omega))
      (fun w k1 k2 => by_any c _ _ _ w k1 k2 (by omega) (by omega) (by omega) (by omega))
end Go.Proofs.Ytpoiobgpggiebaa
/- Numbers stored inside a block. -/
namespace Go.Proofs.Ytpoiobgpggiebaa
open Go.RowKit
def putF (f : Nat → Int) (o n : Nat) (F : Nat → Int) : Nat → Int := fun i => if o ≤ i ∧ i < o + n then F (i - o) else f i
theorem arrv_splice (N o n : Nat) (f F : Nat → Int) (h : o + n ≤ N) : ((arrv N f).toList.take o ++ (arrv n F).toList ++ (arrv N f).toList.drop (o + n)).toArray = arrv N (putF f o n F) := by
  have l1 : ((arrv N f).toList.take o ++ (arrv n F).toList ++ (arrv N f).toList.drop (o + n)).length = N := by simp [arrv_size]; omega
  apply Array.ext_getElem?
  intro i
  by_cases hi : i < N
  · rw [arrv_get hi]
    unfold putF
    simp only [List.getElem?_toArray]
    by_cases h1 : i < o
    · rw [if_neg (by omega), List.append_assoc, List.getElem?_append_left (by simp [arrv_size]; omega), List.getElem?_take, if_pos h1, Array.getElem?_toList, arrv_get hi]
    · by_cases h2 : i < o + n
      · rw [if_pos (by omega), List.getElem?_append_left (by simp [arrv_size]; omega), List.getElem?_append_right (by simp [arrv_size]; omega)]
        simp only [List.length_take, Array.length_toList, arrv_size, Array.getElem?_toList]
        rw [show i - min o N = i - o by omega, arrv_get (by omega)]
      · rw [if_neg (by omega), List.getElem?_append_right (by simp [arrv_size]; omega)]
        simp only [List.length_append, List.length_take, Array.length_toList, arrv_size, List.getElem?_drop, Array.getElem?_toList]
        rw [show o + n + (i - (min o N + n)) = i by omega, arrv_get hi]
  · rw [Array.getElem?_eq_none (xs := arrv N _) (by rw [arrv_size]; omega), Array.getElem?_eq_none (by simp only [List.size_toArray]; omega)]
open Go in
theorem run_storeCells_sub {P : Program} {w : World} {g T N : Nat} {f : Nat → Int} (F : Nat → Int) (o n : Nat) (h : Blk w g T N f) (hon : o + n ≤ N) :
    (storeCells ⟨g, o, none⟩ (arrv n F).toList).run P w = .ok () (w.setRow g (arrv N (putF f o n F))) := by
  have e := run_storeCells_at (P := P) g o T (arrv n F).toList 0 (arrv N f) w h (by simp [arrv_size]; omega) (fun v hv => (Array.all_eq_true'.1 (oneCell_arrv n F)) v (by simpa using hv))
  rw [e]
  congr 2
  simp only [Nat.add_zero, Array.length_toList, arrv_size]
  exact arrv_splice N o n f F hon
open Go in
theorem run_store_sub {P : Program} {ev : Operand → Value} {o' : Oper} {w : World} (ty : TypeId) (x y : Operand) (ho : o'.op = .store ty x y)
    (g o : Nat) (hx : ev x = .pointer (some ⟨g, o, none⟩)) {T N n : Nat} {F f : Nat → Int} (hy : ev y = .agg (arrv n F)) (hg : Blk w g T N f) (hon : o + n ≤ N) (hi : (P.info? ty).map (·.size) = some n) :
    (execOp ev o').run P w = .ok .skip (w.setRow g (arrv N (putF f o n F))) := by
  have h := run_storeCells_sub (P := P) F o n hg hon
  have hs : (storeVar ty ⟨g, o, none⟩ (.agg (arrv n F))).run P w = .ok () (w.setRow g (arrv N (putF f o n F))) := by
    cases hq : P.info? ty with
    | none => simp [hq] at hi
    | some i =>
      have hs : n = i.size := by simp [hq] at hi; omega
      have hz : (arrv n F).size = i.size := by rw [arrv_size]; exact hs
      simp [storeVar, sizeOf, typeInfo, hq, Value.cells, hz, h]
  unfold execOp
  simp only [ho, hx, hy, Instr.storeAt, Instr.sureAddr, Sem.run_bind, Sem.run_pure, Result.andThen_ok, hs]
end Go.Proofs.Ytpoiobgpggiebaa
/- The parts of a sample, as the program's numbers; numbers stored inside a block. -/
namespace Go.Proofs.Ytpoiobgpggiebaa
open Go.RowKit
/-- Seconds. -/
def secV (us : Int) : Int := mdivV us 1073741824 1000000
def secH (us : Int) : Bool := mdivH us 1073741824 1000000
/-- The turned angles, the velocities gained: what was measured less the bias. -/
def spA (K I : Nat → Int) (a o : Nat) (dt : Int) : Nat → Int := fun i => subV (I (o + i)) (mulV (partF K a i) dt 30)
def spAH (K I : Nat → Int) (a o : Nat) (dt : Int) : Bool := orB (fun i => mulH (partF K a i) dt 30) 3 || orB (fun i => subH (I (o + i)) (mulV (partF K a i) dt 30)) 3
def spF (K I : Nat → Int) : Nat → Int := putF (putF (putF (putF (fun i => if i = 0 then secV (I 1) else 0) 1 3 (spA K I 10 2 (secV (I 1)))) 4 3 (spA K I 13 5 (secV (I 1)))) 7 4 (exV (spA K I 10 2 (secV (I 1))))) 11 9 (roV K)
def spH (K I : Nat → Int) : Bool := secH (I 1) || spAH K I 10 2 (secV (I 1)) || spAH K I 13 5 (secV (I 1)) || exH (spA K I 10 2 (secV (I 1))) || roH K
end Go.Proofs.Ytpoiobgpggiebaa
/- Contracts of package strap: Seconds, Split. -/
namespace Go.Proofs.Ytpoiobgpggiebaa
open Go.RowKit
set_option maxRecDepth 100000
theorem ia3 : (Try.prog.info? 33).map (·.size) = some 3 := by kernel_rfl
theorem iimu : (Try.prog.info? 35).map (·.size) = some 8 := by kernel_rfl
theorem iprt : (Try.prog.info? 94).map (·.size) = some 20 := by kernel_rfl
theorem zp20 : (#[.int .i64 0, .int .i64 0, .int .i64 0, .int .i64 0, .int .i64 0, .int .i64 0, .int .i64 0, .int .i64 0, .int .i64 0, .int .i64 0, .int .i64 0, .int .i64 0, .int .i64 0, .int .i64 0, .int .i64 0, .int .i64 0, .int .i64 0, .int .i64 0, .int .i64 0, .int .i64 0] : Array Value) = arrv 20 (fun _ => 0) := by kernel_rfl
theorem sec_any (c : Addr) (h : Bool) (us : Int) (w : World) (hc : w.cell? c = some (.bool h)) (hf : w.frozen? c = false) :
    Calls Try.prog 63 #[.pointer (some c), .int .i64 us] w fun e w' => e = .returned (.int .i64 (secV us)) ∧ Upd c (h || secH us) w w' := by
  have MC := Lib.hid (mdiv_any c h us 1073741824 1000000 w hc hf)
  clear hc hf
  go_enter Try.func63, Try.ntmps63
  go_wp2_with (go_at_call 77; (refine MC.out.mono ?_); rintro e w1 ⟨rfl, hu1⟩)
  go_ret
  exact ⟨rfl, hu1⟩
open Go in
theorem run_build_p1 {o : Oper} {ev : Operand → Value} {w : World} (x : Operand) (ho : o.op = .build 94 #[(0, x)]) {a : Int} (hx : ev x = .int .i64 a) :
    (execOp ev o).run Try.prog w = .ok (.value (.agg (arrv 20 (fun i => if i = 0 then a else 0)))) w := by
  unfold execOp
  simp only [ho, List.map_toArray, List.map_cons, List.map_nil, hx]
  kernel_rfl
/-- The blocks of strap.Split; P: the parts' block, where it has been laid. -/
structure SpR (c : Addr) (h : Bool) (S I : Nat → Int) (w wr : World) : Prop where
  upd : Upd c h w wr
  s : Blk wr w.heap.size 32 24 S
  i : Blk wr (w.heap.size + 1) 35 8 I
  r : Blk wr (w.heap.size + 1 + 1) 94 20 (fun _ => 0)
  cell : wr.cell? c = some (.bool h)
  free : wr.frozen? c = false
  cb : c.block < w.heap.size
theorem SpR.upd' {c : Addr} {h h' : Bool} {S I : Nat → Int} {w wr w' : World} (s : SpR c h S I w wr) (u : Upd c h' wr w') : SpR c h' S I w w' := by
  have hcb := s.cb
  exact ⟨s.upd.trans u, s.s.upd u (by omega), s.i.upd u (by omega), s.r.upd u (by omega), u.cellc s.cell, (u.frozen (World.block_lt_of_cell? _ _ s.cell)).trans s.free, s.cb⟩
theorem SpR.down {c : Addr} {h : Bool} {S I : Nat → Int} {w wr w' : World} (s : SpR c h S I w wr) (u : Below wr.heap.size wr w') : SpR c h S I w w' :=
  ⟨s.upd.then u, s.s.below u, s.i.below u, s.r.below u, (u.cell (World.block_lt_of_cell? _ _ s.cell)).trans s.cell, (u.frozen (World.block_lt_of_cell? _ _ s.cell)).trans s.free, s.cb⟩
theorem SpR.row {c : Addr} {h : Bool} {S I : Nat → Int} {w wr : World} (s : SpR c h S I w wr) {b : Nat} (hb : w.heap.size + 1 + 1 < b) (cs : Array Value) : SpR c h S I w (wr.setRow b cs) := by
  have hcb := s.cb
  exact ⟨s.upd.then' (below_row (Below.refl _ _) (by omega) _), s.s.setRow_other _ (by omega), s.i.setRow_other _ (by omega), s.r.setRow_other _ (by omega), by rw [(cell_row_other _ (by omega)).1]; exact s.cell, by rw [(cell_row_other _ (by omega)).2]; exact s.free, s.cb⟩
theorem SpR.rowS {c : Addr} {h : Bool} {S I : Nat → Int} {w wr : World} (s : SpR c h S I w wr) (F : Nat → Int) : SpR c h F I w (wr.setRow w.heap.size (arrv 24 F)) := by
  have hcb := s.cb
  exact ⟨s.upd.then' (below_row (Below.refl _ _) (by omega) _), s.s.setRow F, s.i.setRow_other _ (by omega), s.r.setRow_other _ (by omega), by rw [(cell_row_other _ (by omega)).1]; exact s.cell, by rw [(cell_row_other _ (by omega)).2]; exact s.free, s.cb⟩
theorem sp_start (c : Addr) (h : Bool) (S I : Nat → Int) (w : World) (hc : w.cell? c = some (.bool h)) (hf : w.frozen? c = false) :
    SpR c h S I w (((w.alloc (.cells (arrv 24 S) 32)).alloc (.cells (arrv 8 I) 35)).alloc (.cells #[.int .i64 0, .int .i64 0, .int .i64 0, .int .i64 0, .int .i64 0, .int .i64 0, .int .i64 0, .int .i64 0, .int .i64 0, .int .i64 0, .int .i64 0, .int .i64 0, .int .i64 0, .int .i64 0, .int .i64 0, .int .i64 0, .int .i64 0, .int .i64 0, .int .i64 0, .int .i64 0] 94)) := by
  have hcb := World.block_lt_of_cell? w c hc
  have bl : Below w.heap.size w (((w.alloc (.cells (arrv 24 S) 32)).alloc (.cells (arrv 8 I) 35)).alloc (.cells #[.int .i64 0, .int .i64 0, .int .i64 0, .int .i64 0, .int .i64 0, .int .i64 0, .int .i64 0, .int .i64 0, .int .i64 0, .int .i64 0, .int .i64 0, .int .i64 0, .int .i64 0, .int .i64 0, .int .i64 0, .int .i64 0, .int .i64 0, .int .i64 0, .int .i64 0, .int .i64 0] 94)) := by (repeat (first | with_reducible exact Below.refl _ _ | with_reducible apply Below.drew | (with_reducible refine below_drewN ?_ _) | (with_reducible refine Below.alloc ?_ (by (try simp) <;> omega) _) | (with_reducible refine Below.setCell ?_ (by (try simp) <;> omega) _)))
  refine ⟨Upd.then (Upd.refl hc) bl, ?_, ?_, ?_, (bl.cell hcb).trans hc, (bl.frozen hcb).trans hf, hcb⟩
  · exact ((Blk.new w _ 24 S).alloc _).alloc _
  · exact (Blk.new1 w _ _ 8 I).alloc _
  · rw [zp20]; exact blk_new2 w _ _ _ 20 _
/-- With the parts' own block. -/
structure SqR (c : Addr) (h : Bool) (S I P : Nat → Int) (b : Nat) (w wr : World) : Prop where
  a : SpR c h S I w wr
  p : Blk wr b 94 20 P
  lt : w.heap.size + 1 + 1 < b
theorem SqR.upd' {c : Addr} {h h' : Bool} {S I P : Nat → Int} {b : Nat} {w wr w' : World} (s : SqR c h S I P b w wr) (u : Upd c h' wr w') : SqR c h' S I P b w w' := by
  have hcb := s.a.cb
  have := s.lt
  exact ⟨s.a.upd' u, s.p.upd u (by omega), s.lt⟩
theorem SqR.down {c : Addr} {h : Bool} {S I P : Nat → Int} {b : Nat} {w wr w' : World} (s : SqR c h S I P b w wr) (u : Below wr.heap.size wr w') : SqR c h S I P b w w' := ⟨s.a.down u, s.p.below u, s.lt⟩
theorem SqR.drew {c : Addr} {h : Bool} {S I P : Nat → Int} {b : Nat} {w wr : World} (s : SqR c h S I P b w wr) : SqR c h S I P b w wr.drew := s.down (Below.drew (Below.refl _ _))
theorem SqR.rowP {c : Addr} {h : Bool} {S I P : Nat → Int} {b : Nat} {w wr : World} (s : SqR c h S I P b w wr) (F : Nat → Int) : SqR c h S I F b w (wr.setRow b (arrv 20 F)) := ⟨s.a.row s.lt _, s.p.setRow F, s.lt⟩
theorem sq_new {c : Addr} {h : Bool} {S I : Nat → Int} {w wr : World} (s : SpR c h S I w wr) (F : Nat → Int) :
    Blk (wr.alloc (.cells #[.int .i64 0, .int .i64 0, .int .i64 0, .int .i64 0, .int .i64 0, .int .i64 0, .int .i64 0, .int .i64 0, .int .i64 0, .int .i64 0, .int .i64 0, .int .i64 0, .int .i64 0, .int .i64 0, .int .i64 0, .int .i64 0, .int .i64 0, .int .i64 0, .int .i64 0, .int .i64 0] 94)) wr.heap.size 94 20 (fun _ => 0) ∧ SqR c h S I F wr.heap.size w ((wr.alloc (.cells #[.int .i64 0, .int .i64 0, .int .i64 0, .int .i64 0, .int .i64 0, .int .i64 0, .int .i64 0, .int .i64 0, .int .i64 0, .int .i64 0, .int .i64 0, .int .i64 0, .int .i64 0, .int .i64 0, .int .i64 0, .int .i64 0, .int .i64 0, .int .i64 0, .int .i64 0, .int .i64 0] 94)).setRow wr.heap.size (arrv 20 F)) := by
  have b0 : Blk (wr.alloc (.cells #[.int .i64 0, .int .i64 0, .int .i64 0, .int .i64 0, .int .i64 0, .int .i64 0, .int .i64 0, .int .i64 0, .int .i64 0, .int .i64 0, .int .i64 0, .int .i64 0, .int .i64 0, .int .i64 0, .int .i64 0, .int .i64 0, .int .i64 0, .int .i64 0, .int .i64 0, .int .i64 0] 94)) wr.heap.size 94 20 (fun _ => 0) := by rw [zp20]; exact Blk.new _ _ _ _
  have lt : w.heap.size + 1 + 1 < wr.heap.size := s.r.lt
  exact ⟨b0, (s.down ((Below.refl _ _).alloc (Nat.le_refl _) _)).row lt _, b0.setRow F, lt⟩
set_option maxHeartbeats 16000000 in
theorem split_any (c : Addr) (h : Bool) (S I : Nat → Int) (w : World) (hc : w.cell? c = some (.bool h)) (hf : w.frozen? c = false) :
    Calls Try.prog 46 #[.pointer (some c), .agg (arrv 24 S), .agg (arrv 8 I)] w fun e w' => e = .returned (.agg (arrv 20 (spF (keepF S) I))) ∧ Upd c (h || keepH S || spH (keepF S) I) w w' := by
  have S0 := Lib.hid (sp_start c h S I w hc hf)
  have KC := fun (x : World) (k : x.cell? c = some (.bool h)) (f : x.frozen? c = false) => keep_any c h S x k f
  obtain ⟨KS, hK⟩ : ∃ x, keepF S = x := ⟨_, rfl⟩
  obtain ⟨H1, hH1⟩ : ∃ x, (h || keepH S) = x := ⟨_, rfl⟩
  rw [hK, hH1] at KC
  rw [hK, hH1]
  have KC := Lib.hid KC
  obtain ⟨u1, hu1⟩ : ∃ x, I 1 = x := ⟨_, rfl⟩
  have TC := fun (x : World) (k : x.cell? c = some (.bool H1)) (f : x.frozen? c = false) => sec_any c H1 u1 x k f
  obtain ⟨dt, hdt⟩ : ∃ x, secV u1 = x := ⟨_, rfl⟩
  obtain ⟨H2, hH2⟩ : ∃ x, (H1 || secH u1) = x := ⟨_, rfl⟩
  rw [hdt, hH2] at TC
  have TC := Lib.hid TC
  have HF := Lib.hid (show spF KS I = putF (putF (putF (putF (fun i => if i = 0 then dt else 0) 1 3 (spA KS I 10 2 dt)) 4 3 (spA KS I 13 5 dt)) 7 4 (exV (spA KS I 10 2 dt))) 11 9 (roV KS) ∧ (H1 || spH KS I) = (H2 || orB (fun i => mulH (partF KS 10 i) dt 30) 3 || orB (fun i => subH (I (2 + i)) (mulV (partF KS 10 i) dt 30)) 3 || orB (fun i => mulH (partF KS 13 i) dt 30) 3 || orB (fun i => subH (I (5 + i)) (mulV (partF KS 13 i) dt 30)) 3 || exH (spA KS I 10 2 dt) || roH KS) by
    unfold spF spH spAH; rw [hu1, hdt, ← hH2]; exact ⟨rfl, by simp [Bool.or_assoc]⟩)
  have HU := Lib.hid hu1
  clear hK hH1 hu1 hdt hH2 hc hf
  go_enter Try.func46, Try.ntmps46
  go_upto_region 1 with fail
  generalize ((w.alloc (.cells (arrv 24 S) 32)).alloc (.cells (arrv 8 I) 35)).alloc (.cells #[.int .i64 0, .int .i64 0, .int .i64 0, .int .i64 0, .int .i64 0, .int .i64 0, .int .i64 0, .int .i64 0, .int .i64 0, .int .i64 0, .int .i64 0, .int .i64 0, .int .i64 0, .int .i64 0, .int .i64 0, .int .i64 0, .int .i64 0, .int .i64 0, .int .i64 0, .int .i64 0] 94) = W0 at *
  have P0 := S0.out.s
  go_upto_region 2 with (first | (refine wpList_load_row rfl 32 _ rfl (w.heap.size) rfl 32 _ (0, 0) _ (P0) Try.underlying32 rfl (ist.trans (by rw [arrv_size])) ?_) | (go_at_call 22; (refine (KC.out _ S0.out.cell S0.out.free).mono ?_); rintro e w1 ⟨rfl, hu1⟩; have S1 := Lib.hid (S0.out.upd' hu1); have P1 := S1.out.s; clear hu1) | (refine wpList_store_row rfl 32 _ _ rfl (w.heap.size) _ rfl rfl 32 _ (P1) (ist.trans (by rw [arrv_size])) (by rw [arrv_size, arrv_size]) (oneCell_arrv _ _) ?_))
  have S2 := Lib.hid (S1.out.rowS KS)
  generalize w1.setRow w.heap.size (arrv 24 KS) = W2 at *
  clear P0 P1 S1 S0 KC
  have i1 := S2.out.i.cell (i := 1) (by decide)
  rw [HU.out] at i1
  refine wp_region_lit ?_
  refine wpList_val (v := ?_) rfl ?_ ?_
  rotate_left
  · (go_simp; (try (first | with_reducible rfl | (constructor <;> with_reducible rfl))))
  (try simp only [Act.put, nA, nB, nC])
  refine wpList_val (v := ?_) rfl ?_ ?_
  rotate_left
  · (go_simp; (try (first | with_reducible rfl | (constructor <;> with_reducible rfl))))
  (try simp only [Act.put, nA, nB, nC])
  refine wpList_val (v := ?_) rfl ?_ ?_
  rotate_left
  · (go_simp; (try (first | with_reducible rfl | (constructor <;> with_reducible rfl))))
  (try simp only [Act.put, nA, nB, nC])
  refine wpList_step (fun K hK => ?_)
  go_simp
  (refine (TC.out _ S2.out.cell S2.out.free).mono ?_); rintro e w3 ⟨rfl, hu3⟩; have S3 := Lib.hid (S2.out.upd' hu3); clear hu3 S2 i1; have NB := Lib.hid (sq_new S3.out (fun i => if i = 0 then dt else 0))
  (try dsimp only)
  (try simp only [Act.put, nA, nB, nC])
  refine hK _ _ ?_
  clear hK K
  refine wpList_val (v := ?_) rfl ?_ ?_
  rotate_left
  · (refine Eq.trans (run_build_p1 (.tmp 14) (by rfl) (by rfl)) ?_; with_reducible rfl)
  (try simp only [Act.put, nA, nB, nC])
  refine wpList_act (v := ?_) (w' := ?_) rfl ?_ ?_
  rotate_left 2
  · (go_simp; (try (first | with_reducible rfl | (constructor <;> with_reducible rfl))))
  (try simp only [Act.put, nA, nB, nC])
  refine wpList_done (w' := ?_) rfl ?_ ?_
  rotate_left
  · (refine Eq.trans (run_store_row 94 (.tmp 7) (.tmp 15) (by rfl) (w3.heap.size) (by rfl) (by rfl) NB.out.1 (iprt.trans rfl)) ?_; with_reducible rfl)
  (try simp only [Act.put, nA, nB, nC])
  refine wpList_nil ?_
  have S4 := Lib.hid NB.out.2
  generalize (w3.alloc (.cells #[.int .i64 0, .int .i64 0, .int .i64 0, .int .i64 0, .int .i64 0, .int .i64 0, .int .i64 0, .int .i64 0, .int .i64 0, .int .i64 0, .int .i64 0, .int .i64 0, .int .i64 0, .int .i64 0, .int .i64 0, .int .i64 0, .int .i64 0, .int .i64 0, .int .i64 0, .int .i64 0] 94)).setRow w3.heap.size (arrv 20 (fun i => if i = 0 then dt else 0)) = W4 at *
  obtain ⟨pb, hpb⟩ : ∃ x, w3.heap.size = x := ⟨_, rfl⟩
  rw [hpb] at S4 ⊢
  clear NB S3 TC hpb
  obtain ⟨P0, hP0⟩ : ∃ P : Nat → Int, (fun i => if i = 0 then dt else 0) = P := ⟨_, rfl⟩
  rw [hP0] at S4 HF
  have HP := Lib.hid (show P0 0 = dt by rw [← hP0]; rfl)
  clear hP0
  go_upto_region 3 with fail
  have HS := Lib.hid S4.out.drew
  clear S4
  refine wp_region_M (fun w' => Blk w' (w.heap.size + 1) 35 8 I ∧ Blk w' w.heap.size 32 24 KS ∧ w'.cell? ⟨pb, 0, none⟩ = some (.int .i64 dt)) 11 (by kernel_rfl) ?_ (fun hHeld => ?_)
  · exact ⟨HS.out.a.i, HS.out.a.s, by rw [← HP.out]; exact HS.out.p.cell (by decide)⟩
  refine wpAnyM_take 0 (v := ?_) rfl (by kernel_rfl) (fun _ _ _ h => h) (Or.inl ⟨by rfl, ?_⟩) (by assumption) ?_
  rotate_left
  · (intro wx hSw; (try dsimp only at hSw); go_simp; (try with_reducible rfl))
  (try simp only [Act.put, nA, nB, nC])
  refine wpAnyM_take 1 (v := ?_) rfl (by kernel_rfl) (fun _ _ _ h => h) (Or.inl ⟨by rfl, ?_⟩) (by assumption) ?_
  rotate_left
  · (intro wx hSw; (try dsimp only at hSw); go_simp; (try with_reducible rfl))
  (try simp only [Act.put, nA, nB, nC])
  refine wpAnyM_take 2 (v := ?_) rfl (by kernel_rfl) (fun _ _ _ h => h) (Or.inl ⟨by rfl, ?_⟩) (by assumption) ?_
  rotate_left
  · (intro wx hSw; refine Eq.trans (run_load_sub 33 (.tmp 17) (by rfl) (w.heap.size + 1) 2 3 (by rfl) hSw.1 (by decide) _ Try.underlying33 rfl ia3) ?_; with_reducible rfl)
  (try simp only [Act.put, nA, nB, nC])
  refine wpAnyM_take 3 (v := ?_) rfl (by kernel_rfl) (fun _ _ _ h => h) (Or.inl ⟨by rfl, ?_⟩) (by assumption) ?_
  rotate_left
  · (intro wx hSw; (try dsimp only at hSw); go_simp; (try with_reducible rfl))
  (try simp only [Act.put, nA, nB, nC])
  refine wpAnyM_take 4 (v := ?_) rfl (by kernel_rfl) (fun _ _ _ h => h) (Or.inl ⟨by rfl, ?_⟩) (by assumption) ?_
  rotate_left
  · (intro wx hSw; refine Eq.trans (run_load_row 32 (.tmp 4) (by rfl) (w.heap.size) (by rfl) _ _ _ _ (hSw.2.1) Try.underlying32 rfl (ist.trans (by rw [arrv_size]))) ?_; with_reducible rfl)
  (try simp only [Act.put, nA, nB, nC])
  refine wpAnyM_take 6 (v := ?_) rfl (by kernel_rfl) (fun _ _ _ h => h) (Or.inl ⟨by rfl, ?_⟩) (by assumption) ?_
  rotate_left
  · (intro wx hSw; (try dsimp only at hSw); go_simp; (try with_reducible rfl))
  (try simp only [Act.put, nA, nB, nC])
  refine wpAnyM_take 7 (v := ?_) rfl (by kernel_rfl) (fun _ _ _ h => h) (Or.inl ⟨by rfl, ?_⟩) (by assumption) ?_
  rotate_left
  · (intro wx hSw; have h0 := hSw.2.2; go_simp; (try with_reducible rfl))
  (try simp only [Act.put, nA, nB, nC])
  refine wpAnyM_oneS 5 rfl (by kernel_rfl) (fun K hK => ?_)
  go_simp
  (refine (part_any KS 10 _ (by decide) (by decide)).mono ?_); rintro e w5 ⟨rfl, hb⟩; have HT := Lib.hid (HS.out.down hb); clear HS hb; have HS := HT; clear HT
  (try dsimp only)
  (try simp only [Act.put, nA, nB, nC])
  clear hHeld
  refine hK.out _ _ ?_ (fun hHeld => ?_)
  · exact ⟨HS.out.a.i, HS.out.a.s, by rw [← HP.out]; exact HS.out.p.cell (by decide)⟩
  clear hK K
  (try simp only [Act.put, nA, nB, nC])
  refine wpAnyM_oneS 8 rfl (by kernel_rfl) (fun K hK => ?_)
  go_simp
  (refine (vscale_any c _ (partF KS 10) dt _ HS.out.a.cell HS.out.a.free).mono ?_); rintro e w6 ⟨rfl, hu⟩; have HT := Lib.hid (HS.out.upd' hu); clear HS hu; have HS := HT; clear HT
  (try dsimp only)
  (try simp only [Act.put, nA, nB, nC])
  clear hHeld
  refine hK.out _ _ ?_ (fun hHeld => ?_)
  · exact ⟨HS.out.a.i, HS.out.a.s, by rw [← HP.out]; exact HS.out.p.cell (by decide)⟩
  clear hK K
  (try simp only [Act.put, nA, nB, nC])
  refine wpAnyM_oneS 9 rfl (by kernel_rfl) (fun K hK => ?_)
  go_simp
  (refine (vsub_any c _ (fun i => I (2 + i)) (fun i => mulV (partF KS 10 i) dt 30) _ HS.out.a.cell HS.out.a.free).mono ?_); rintro e w7 ⟨rfl, hu⟩; have HT := Lib.hid (HS.out.upd' hu); clear HS hu; have HS := HT; clear HT
  (try dsimp only)
  (try simp only [Act.put, nA, nB, nC])
  clear hHeld
  refine hK.out _ _ ?_ (fun hHeld => ?_)
  · exact ⟨HS.out.a.i, HS.out.a.s, by rw [← HP.out]; exact HS.out.p.cell (by decide)⟩
  clear hK K
  (try simp only [Act.put, nA, nB, nC])
  refine wpAnyM_take 10 (v := ?_) rfl (by kernel_rfl) (fun _ _ _ h => h) (Or.inl ⟨by rfl, ?_⟩) (by assumption) ?_
  rotate_left
  · (intro wx hSw; (try dsimp only at hSw); go_simp; (try with_reducible rfl))
  (try simp only [Act.put, nA, nB, nC])
  refine wpAnyM_one 11 rfl (by kernel_rfl) (fun K hK => ?_)
  go_simp; rw [if_pos (arrv_size _ _), run_storeCells_sub _ 1 3 HS.out.p (by decide)]; go_simp
  refine hK.out _ _ (.inl (by kernel_rfl)) (fun _ => ?_)
  clear hK K
  (try simp only [Act.put, nA, nB, nC])
  refine wpAnyM_done (by kernel_rfl) ?_ _
  have HT := Lib.hid (HS.out.rowP (putF P0 1 3 (fun i => subV (I (2 + i)) (mulV (partF KS 10 i) dt 30))))
  generalize w7.setRow pb (arrv 20 (putF P0 1 3 (fun i => subV (I (2 + i)) (mulV (partF KS 10 i) dt 30)))) = W5 at *
  clear HS
  have HS := HT
  clear HT
  obtain ⟨AN3, hAN3⟩ : ∃ A : Nat → Int, spA KS I 10 2 dt = A := ⟨_, rfl⟩
  rw [show (fun i => subV (I (2 + i)) (mulV (partF KS 10 i) dt 30)) = AN3 from hAN3] at HS
  rw [hAN3] at HF
  obtain ⟨P1, hP2⟩ : ∃ P, putF P0 1 3 AN3 = P := ⟨_, rfl⟩
  rw [hP2] at HS HF
  have HP2 := Lib.hid (show P1 0 = dt by rw [← hP2]; exact HP.out)
  have HQ := Lib.hid (show ∀ i, i < 3 → P1 (1 + i) = AN3 i from fun i hi => by rw [← hP2]; unfold putF; rw [if_pos (by omega)]; congr 1; omega)
  clear HP hP2 hAN3
  have HP := HP2
  clear HP2
  go_upto_region 4 with fail
  have HT := Lib.hid HS.out.drew
  clear HS
  have HS := HT
  clear HT
  refine wp_region_M (fun w' => Blk w' (w.heap.size + 1) 35 8 I ∧ Blk w' w.heap.size 32 24 KS ∧ w'.cell? ⟨pb, 0, none⟩ = some (.int .i64 dt)) 11 (by kernel_rfl) ?_ (fun hHeld => ?_)
  · exact ⟨HS.out.a.i, HS.out.a.s, by rw [← HP.out]; exact HS.out.p.cell (by decide)⟩
  refine wpAnyM_take 0 (v := ?_) rfl (by kernel_rfl) (fun _ _ _ h => h) (Or.inl ⟨by rfl, ?_⟩) (by assumption) ?_
  rotate_left
  · (intro wx hSw; (try dsimp only at hSw); go_simp; (try with_reducible rfl))
  (try simp only [Act.put, nA, nB, nC])
  refine wpAnyM_take 1 (v := ?_) rfl (by kernel_rfl) (fun _ _ _ h => h) (Or.inl ⟨by rfl, ?_⟩) (by assumption) ?_
  rotate_left
  · (intro wx hSw; (try dsimp only at hSw); go_simp; (try with_reducible rfl))
  (try simp only [Act.put, nA, nB, nC])
  refine wpAnyM_take 2 (v := ?_) rfl (by kernel_rfl) (fun _ _ _ h => h) (Or.inl ⟨by rfl, ?_⟩) (by assumption) ?_
  rotate_left
  · (intro wx hSw; refine Eq.trans (run_load_sub 33 (.tmp 28) (by rfl) (w.heap.size + 1) 5 3 (by rfl) hSw.1 (by decide) _ Try.underlying33 rfl ia3) ?_; with_reducible rfl)
  (try simp only [Act.put, nA, nB, nC])
  refine wpAnyM_take 3 (v := ?_) rfl (by kernel_rfl) (fun _ _ _ h => h) (Or.inl ⟨by rfl, ?_⟩) (by assumption) ?_
  rotate_left
  · (intro wx hSw; (try dsimp only at hSw); go_simp; (try with_reducible rfl))
  (try simp only [Act.put, nA, nB, nC])
  refine wpAnyM_take 4 (v := ?_) rfl (by kernel_rfl) (fun _ _ _ h => h) (Or.inl ⟨by rfl, ?_⟩) (by assumption) ?_
  rotate_left
  · (intro wx hSw; refine Eq.trans (run_load_row 32 (.tmp 4) (by rfl) (w.heap.size) (by rfl) _ _ _ _ (hSw.2.1) Try.underlying32 rfl (ist.trans (by rw [arrv_size]))) ?_; with_reducible rfl)
  (try simp only [Act.put, nA, nB, nC])
  refine wpAnyM_take 6 (v := ?_) rfl (by kernel_rfl) (fun _ _ _ h => h) (Or.inl ⟨by rfl, ?_⟩) (by assumption) ?_
  rotate_left
  · (intro wx hSw; (try dsimp only at hSw); go_simp; (try with_reducible rfl))
  (try simp only [Act.put, nA, nB, nC])
  refine wpAnyM_take 7 (v := ?_) rfl (by kernel_rfl) (fun _ _ _ h => h) (Or.inl ⟨by rfl, ?_⟩) (by assumption) ?_
  rotate_left
  · (intro wx hSw; have h0 := hSw.2.2; go_simp; (try with_reducible rfl))
  (try simp only [Act.put, nA, nB, nC])
  refine wpAnyM_oneS 5 rfl (by kernel_rfl) (fun K hK => ?_)
  go_simp
  (refine (part_any KS 13 _ (by decide) (by decide)).mono ?_); rintro e w5 ⟨rfl, hb⟩; have HT := Lib.hid (HS.out.down hb); clear HS hb; have HS := HT; clear HT
  (try dsimp only)
  (try simp only [Act.put, nA, nB, nC])
  clear hHeld
  refine hK.out _ _ ?_ (fun hHeld => ?_)
  · exact ⟨HS.out.a.i, HS.out.a.s, by rw [← HP.out]; exact HS.out.p.cell (by decide)⟩
  clear hK K
  (try simp only [Act.put, nA, nB, nC])
  refine wpAnyM_oneS 8 rfl (by kernel_rfl) (fun K hK => ?_)
  go_simp
  (refine (vscale_any c _ (partF KS 13) dt _ HS.out.a.cell HS.out.a.free).mono ?_); rintro e w6 ⟨rfl, hu⟩; have HT := Lib.hid (HS.out.upd' hu); clear HS hu; have HS := HT; clear HT
  (try dsimp only)
  (try simp only [Act.put, nA, nB, nC])
  clear hHeld
  refine hK.out _ _ ?_ (fun hHeld => ?_)
  · exact ⟨HS.out.a.i, HS.out.a.s, by rw [← HP.out]; exact HS.out.p.cell (by decide)⟩
  clear hK K
  (try simp only [Act.put, nA, nB, nC])
  refine wpAnyM_oneS 9 rfl (by kernel_rfl) (fun K hK => ?_)
  go_simp
  (refine (vsub_any c _ (fun i => I (5 + i)) (fun i => mulV (partF KS 13 i) dt 30) _ HS.out.a.cell HS.out.a.free).mono ?_); rintro e w7 ⟨rfl, hu⟩; have HT := Lib.hid (HS.out.upd' hu); clear HS hu; have HS := HT; clear HT
  (try dsimp only)
  (try simp only [Act.put, nA, nB, nC])
  clear hHeld
  refine hK.out _ _ ?_ (fun hHeld => ?_)
  · exact ⟨HS.out.a.i, HS.out.a.s, by rw [← HP.out]; exact HS.out.p.cell (by decide)⟩
  clear hK K
  (try simp only [Act.put, nA, nB, nC])
  refine wpAnyM_take 10 (v := ?_) rfl (by kernel_rfl) (fun _ _ _ h => h) (Or.inl ⟨by rfl, ?_⟩) (by assumption) ?_
  rotate_left
  · (intro wx hSw; (try dsimp only at hSw); go_simp; (try with_reducible rfl))
  (try simp only [Act.put, nA, nB, nC])
  refine wpAnyM_one 11 rfl (by kernel_rfl) (fun K hK => ?_)
  go_simp; rw [if_pos (arrv_size _ _), run_storeCells_sub _ 4 3 HS.out.p (by decide)]; go_simp
  refine hK.out _ _ (.inl (by kernel_rfl)) (fun _ => ?_)
  clear hK K
  (try simp only [Act.put, nA, nB, nC])
  refine wpAnyM_done (by kernel_rfl) ?_ _
  have HT := Lib.hid (HS.out.rowP (putF P1 4 3 (fun i => subV (I (5 + i)) (mulV (partF KS 13 i) dt 30))))
  generalize w7.setRow pb (arrv 20 (putF P1 4 3 (fun i => subV (I (5 + i)) (mulV (partF KS 13 i) dt 30)))) = W6 at *
  clear HS
  have HS := HT
  clear HT
  obtain ⟨AN4, hAN4⟩ : ∃ A : Nat → Int, spA KS I 13 5 dt = A := ⟨_, rfl⟩
  rw [show (fun i => subV (I (5 + i)) (mulV (partF KS 13 i) dt 30)) = AN4 from hAN4] at HS
  rw [hAN4] at HF
  obtain ⟨P2, hP2⟩ : ∃ P, putF P1 4 3 AN4 = P := ⟨_, rfl⟩
  rw [hP2] at HS HF
  have HP2 := Lib.hid (show P2 0 = dt by rw [← hP2]; exact HP.out)
  have HQ2 := Lib.hid (show ∀ i, i < 3 → P2 (1 + i) = AN3 i from fun i hi => by rw [← hP2]; unfold putF; rw [if_neg (by omega)]; exact HQ.out i hi)
  clear HP hP2 hAN4 HP2 HQ
  have PB5 := HS.out.p
  go_upto_region 5 with fail
  refine wp_region_lit ?_
  refine wpList_val (v := ?_) rfl ?_ ?_
  rotate_left
  · (go_simp; (try (first | with_reducible rfl | (constructor <;> with_reducible rfl))))
  (try simp only [Act.put, nA, nB, nC])
  refine wpList_val (v := ?_) rfl ?_ ?_
  rotate_left
  · (go_simp; (try (first | with_reducible rfl | (constructor <;> with_reducible rfl))))
  (try simp only [Act.put, nA, nB, nC])
  refine wpList_val (v := ?_) rfl ?_ ?_
  rotate_left
  · (refine Eq.trans (run_load_sub 43 (.tmp 39) (by rfl) pb 1 3 (by rfl) PB5 (by decide) _ Try.underlying43 rfl iv3) ?_; rw [show arrv 3 (fun i => P2 (1 + i)) = arrv 3 AN3 from arrv_congr fun i hi => HQ2.out i hi])
  (try simp only [Act.put, nA, nB, nC])
  refine wpList_step (fun K hK => ?_)
  go_simp
  (refine (exp_any c _ AN3 _ HS.out.a.cell HS.out.a.free).mono ?_); rintro e w8 ⟨rfl, hu⟩; have HT := Lib.hid (HS.out.upd' hu); clear HS hu PB5; have HS := HT; clear HT
  (try dsimp only)
  (try simp only [Act.put, nA, nB, nC])
  refine hK _ _ ?_
  clear hK K
  refine wpList_val (v := ?_) rfl ?_ ?_
  rotate_left
  · (go_simp; (try (first | with_reducible rfl | (constructor <;> with_reducible rfl))))
  (try simp only [Act.put, nA, nB, nC])
  refine wpList_done (w' := ?_) rfl ?_ ?_
  rotate_left
  · (refine Eq.trans (run_store_sub 42 (.tmp 42) (.tmp 41) (by rfl) pb 7 (by rfl) (by rfl) HS.out.p (by decide) iqt) ?_; with_reducible rfl)
  (try simp only [Act.put, nA, nB, nC])
  refine wpList_nil ?_
  have HT := Lib.hid (HS.out.rowP (putF P2 7 4 (exV AN3)))
  generalize w8.setRow pb (arrv 20 (putF P2 7 4 (exV AN3))) = W9 at *
  clear HS
  have HS := HT
  clear HT HQ2
  obtain ⟨P3, hP3⟩ : ∃ P, putF P2 7 4 (exV AN3) = P := ⟨_, rfl⟩
  rw [hP3] at HS HF
  clear hP3
  have S6 := HS.out.a.s
  go_upto_region 6 with fail
  refine wp_region_lit ?_
  refine wpList_val (v := ?_) rfl ?_ ?_
  rotate_left
  · (go_simp; (try (first | with_reducible rfl | (constructor <;> with_reducible rfl))))
  (try simp only [Act.put, nA, nB, nC])
  refine wpList_val (v := ?_) rfl ?_ ?_
  rotate_left
  · refine Eq.trans (run_load_row 32 (.tmp 4) (by rfl) (w.heap.size) (by rfl) _ _ _ _ (S6) Try.underlying32 rfl (ist.trans (by rw [arrv_size]))) ?_; with_reducible rfl
  (try simp only [Act.put, nA, nB, nC])
  refine wpList_step (fun K hK => ?_)
  go_simp
  (refine (att_any KS _).mono ?_); rintro e w10 ⟨rfl, hb⟩; have HT := Lib.hid (HS.out.down hb); clear HS hb S6; have HS := HT; clear HT
  (try dsimp only)
  (try simp only [Act.put, nA, nB, nC])
  refine hK _ _ ?_
  clear hK K
  refine wpList_step (fun K hK => ?_)
  go_simp
  (refine (rof_any c _ KS _ HS.out.a.cell HS.out.a.free).mono ?_); rintro e w11 ⟨rfl, hu⟩; have HT := Lib.hid (HS.out.upd' hu); clear HS hu; have HS := HT; clear HT
  (try dsimp only)
  (try simp only [Act.put, nA, nB, nC])
  refine hK _ _ ?_
  clear hK K
  refine wpList_val (v := ?_) rfl ?_ ?_
  rotate_left
  · (go_simp; (try (first | with_reducible rfl | (constructor <;> with_reducible rfl))))
  (try simp only [Act.put, nA, nB, nC])
  refine wpList_done (w' := ?_) rfl ?_ ?_
  rotate_left
  · (refine Eq.trans (run_store_sub 92 (.tmp 47) (.tmp 46) (by rfl) pb 11 (by rfl) (by rfl) HS.out.p (by decide) im9) ?_; with_reducible rfl)
  (try simp only [Act.put, nA, nB, nC])
  refine wpList_nil ?_
  have HT := Lib.hid (HS.out.rowP (putF P3 11 9 (roV KS)))
  generalize w11.setRow pb (arrv 20 (putF P3 11 9 (roV KS))) = W12 at *
  clear HS
  have HS := HT
  clear HT
  obtain ⟨P4, hP4⟩ : ∃ P, putF P3 11 9 (roV KS) = P := ⟨_, rfl⟩
  rw [hP4] at HS HF
  clear hP4
  have B0 := HS.out.p
  have B1 := HS.out.a.r
  go_upto_region 7 with fail
  refine wp_region_lit ?_
  refine wpList_val (v := ?_) rfl ?_ ?_
  rotate_left
  · (refine Eq.trans (run_load_row 94 (.tmp 7) (by rfl) pb (by rfl) _ _ _ _ B0 Try.underlying94 rfl (iprt.trans (by rw [arrv_size]))) ?_; with_reducible rfl)
  (try simp only [Act.put, nA, nB, nC])
  refine wpList_done (w' := ?_) rfl ?_ ?_
  rotate_left
  · (refine Eq.trans (run_store_row 94 (.tmp 6) (.tmp 48) (by rfl) (w.heap.size + 1 + 1) (by rfl) (by rfl) B1 (iprt.trans rfl)) ?_; with_reducible rfl)
  (try simp only [Act.put, nA, nB, nC])
  refine wpList_nil ?_
  have r1 := B1.setRow P4
  have U1 := HS.out.a.upd.then' (below_row (Below.refl _ _) (show w.heap.size ≤ w.heap.size + 1 + 1 by omega) (arrv 20 P4))
  rw [← HF.out.2] at U1
  generalize W12.setRow (w.heap.size + 1 + 1) (arrv 20 P4) = W13 at *
  go_wp2_with fail
  refine bodyPost_ret (results_cell_row Try.results46 _ _ (w.heap.size + 1 + 1) 94 (arrv 20 P4) (0, 0) _ rfl r1 Try.underlying94 rfl (iprt.trans (by rw [arrv_size]))) rfl ⟨by rw [HF.out.1], U1⟩
end Go.Proofs.Ytpoiobgpggiebaa
/- Slices of two or three vectors, built; a vector built out of its last number. -/
namespace Go.Proofs.Ytpoiobgpggiebaa
open Go.RowKit
open Go
set_option maxRecDepth 100000
/-- Vectors, one behind the other. -/
def sideV (L : Nat → Nat → Int) : Nat → Int := fun i => L (i / 3) (i % 3)
def v2L (A B : Nat → Int) : Nat → Nat → Int | 0 => A | _ => B
def v3L (A B C : Nat → Int) : Nat → Nat → Int | 0 => A | 1 => B | _ => C
theorem fillv2 (A B : Nat → Int) (Z : Array Value) (hZ : Z = arrv 6 (fun _ => 0)) : Instr.fill (fun i => some (i * 3, 3)) Z [(0, .agg (arrv 3 A)), (1, .agg (arrv 3 B))] = some (arrv 6 (sideV (v2L A B))) := by
  subst hZ; kernel_rfl
theorem fillv3 (A B C : Nat → Int) (Z : Array Value) (hZ : Z = arrv 9 (fun _ => 0)) : Instr.fill (fun i => some (i * 3, 3)) Z [(0, .agg (arrv 3 A)), (1, .agg (arrv 3 B)), (2, .agg (arrv 3 C))] = some (arrv 9 (sideV (v3L A B C))) := by
  subst hZ; kernel_rfl
theorem zrange6 (Z : Array Value) (hZ : Z = arrv 3 (fun _ => 0)) : (Array.range (2 * 3)).map (fun i => Z[i % Z.size]!) = arrv 6 (fun _ => 0) := by
  subst hZ; kernel_rfl
theorem zrange9 (Z : Array Value) (hZ : Z = arrv 3 (fun _ => 0)) : (Array.range (3 * 3)).map (fun i => Z[i % Z.size]!) = arrv 9 (fun _ => 0) := by
  subst hZ; kernel_rfl
theorem run_bslv2 (A B : Nat → Int) (w : World) : (Instr.buildSlice 77 2 #[(0, .agg (arrv 3 A)), (1, .agg (arrv 3 B))]).run Try.prog w = .ok (.slice (some ⟨w.heap.size, 0, none⟩) 2 2) (w.alloc (.cells (arrv 6 (sideV (v2L A B))) 43)) := by
  have hz : (zeroValue 43).run Try.prog w = .ok (.agg (arrv 3 (fun _ => 0))) w := by kernel_rfl
  have hs : (sizeOf 43).run Try.prog w = .ok 3 w := by kernel_rfl
  unfold Instr.buildSlice
  simp only [Sem.run_bind, run_underlying Try.underlying77, Result.andThen_ok, hs]
  rw [if_neg (by decide), if_neg (by decide)]
  have hf : Instr.fill (fun i => some (i * 3, 3)) (Array.map (fun x => (Value.agg (arrv 3 (fun _ => 0))).cells[x % (Value.agg (arrv 3 (fun _ => 0))).cells.size]!) (Array.range (2 * 3))) [(0, Value.agg (arrv 3 A)), (1, Value.agg (arrv 3 B))] = some (arrv 6 (sideV (v2L A B))) :=
    fillv2 A B _ (zrange6 (arrv 3 (fun _ => 0)) rfl)
  simp only [Sem.run_bind, hz, Result.andThen_ok, Sem.run_pure, hf]
  simp [newRow, newObj, go_sem]
  rfl
theorem run_bslv3 (A B C : Nat → Int) (w : World) : (Instr.buildSlice 77 3 #[(0, .agg (arrv 3 A)), (1, .agg (arrv 3 B)), (2, .agg (arrv 3 C))]).run Try.prog w = .ok (.slice (some ⟨w.heap.size, 0, none⟩) 3 3) (w.alloc (.cells (arrv 9 (sideV (v3L A B C))) 43)) := by
  have hz : (zeroValue 43).run Try.prog w = .ok (.agg (arrv 3 (fun _ => 0))) w := by kernel_rfl
  have hs : (sizeOf 43).run Try.prog w = .ok 3 w := by kernel_rfl
  unfold Instr.buildSlice
  simp only [Sem.run_bind, run_underlying Try.underlying77, Result.andThen_ok, hs]
  rw [if_neg (by decide), if_neg (by decide)]
  have hf : Instr.fill (fun i => some (i * 3, 3)) (Array.map (fun x => (Value.agg (arrv 3 (fun _ => 0))).cells[x % (Value.agg (arrv 3 (fun _ => 0))).cells.size]!) (Array.range (3 * 3))) [(0, Value.agg (arrv 3 A)), (1, Value.agg (arrv 3 B)), (2, Value.agg (arrv 3 C))] = some (arrv 9 (sideV (v3L A B C))) :=
    fillv3 A B C _ (zrange9 (arrv 3 (fun _ => 0)) rfl)
  simp only [Sem.run_bind, hz, Result.andThen_ok, Sem.run_pure, hf]
  simp [newRow, newObj, go_sem]
  rfl
theorem wp_bslv2 {o : Oper} {a : Act} {w : World} {K : Act → World → Prop} {Q : Exit → Act → World → Prop} {A B : Nat → Int} (x y : Operand) (ho : o.op = .buildSlice 77 2 #[(0, x), (1, y)])
    (hx : a.eval x = .agg (arrv 3 A)) (hy : a.eval y = .agg (arrv 3 B)) (h : K (a.put o.dst (.slice (some ⟨w.heap.size, 0, none⟩) 2 2)) (w.alloc (.cells (arrv 6 (sideV (v2L A B))) 43))) : o.wp Try.prog a w K Q := by
  unfold Oper.wp execOp
  simp only [ho, Sem.run_bind, List.map_toArray, List.map_cons, List.map_nil, hx, hy, run_bslv2 A B w, Result.andThen_ok]
  exact h
theorem wp_bslv3 {o : Oper} {a : Act} {w : World} {K : Act → World → Prop} {Q : Exit → Act → World → Prop} {A B C : Nat → Int} (x y z : Operand) (ho : o.op = .buildSlice 77 3 #[(0, x), (1, y), (2, z)])
    (hx : a.eval x = .agg (arrv 3 A)) (hy : a.eval y = .agg (arrv 3 B)) (hz : a.eval z = .agg (arrv 3 C)) (h : K (a.put o.dst (.slice (some ⟨w.heap.size, 0, none⟩) 3 3)) (w.alloc (.cells (arrv 9 (sideV (v3L A B C))) 43))) : o.wp Try.prog a w K Q := by
  unfold Oper.wp execOp
  simp only [ho, Sem.run_bind, List.map_toArray, List.map_cons, List.map_nil, hx, hy, hz, run_bslv3 A B C w, Result.andThen_ok]
  exact h
theorem vls_of {w : World} {b T n : Nat} {L : Nat → Nat → Int} (h : Blk w b T (3 * n) (sideV L)) : VLs w b 0 n L := fun j hj k hk => by
  have := h.cell (i := j * 3 + k) (by omega)
  rw [show 0 + j * 3 + k = j * 3 + k by omega, this]
  unfold sideV
  rw [show (j * 3 + k) / 3 = j by omega, show (j * 3 + k) % 3 = k by omega]
theorem run_build_v3z {o : Oper} {ev : Operand → Value} {w : World} (x : Operand) (ho : o.op = .build 43 #[(2, x)]) {a : Int} (hx : ev x = .int .i64 a) :
    (execOp ev o).run Try.prog w = .ok (.value (.agg (arrv 3 (vc3 0 0 a)))) w := by
  unfold execOp
  simp only [ho, List.map_toArray, List.map_cons, List.map_nil, hx]
  kernel_rfl
end Go.Proofs.Ytpoiobgpggiebaa
