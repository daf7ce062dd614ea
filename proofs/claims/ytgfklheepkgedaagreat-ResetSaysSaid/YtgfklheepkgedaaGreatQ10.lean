/- Contracts of the program's functions and plain laws, part 10: they hold for all arguments. -/
import Derived.Test.YtgfklheepkgedaaGreatQ09
import Derived.Deep.Cut
import Derived.Deep.CutRange
/- Contract of thornton.rows. -/
namespace Go.Proofs.YtgfklheepkgedaaGreat
open Go.RowKit
set_option maxRecDepth 100000
set_option maxHeartbeats 1000000 in
theorem rows_any (c : Addr) (h : Bool) (f F : Nat → Int) (fb : Nat) (w : World) (hc : w.cell? c = some (.bool h)) (hf : w.frozen? c = false) (hF : Blk w fb 96 576 F) :
  Calls Tryz.prog 89 #[.pointer (some c), .agg (arrv 300 f), .pointer (some ⟨fb, 0, none⟩)] w fun e w' =>
   e = .returned (.pointer (some ⟨w.heap.size + 1, 0, none⟩)) ∧ Upd c (h || rowsH f F) w w' ∧ Blk w' (w.heap.size + 1) 146 1152 (rowsW f F) := by
 have hcb := World.block_lt_of_cell? w c hc
 have hfl := hF.lt
 have hfc := hF.flag hc
 have HC := Lib.hid hc
 have HF := Lib.hid hf
 have HM := Lib.hid hF
 clear hc hf hF
 go_enter Tryz.func89, Tryz.ntmps89
 go_wp2_with fail
 go_loopw [13] (fun i wr => ∃ k : Nat, k ≤ 24 ∧ i = .int .i64 k ∧ Hid (RowsR c (h || rwH f F k) f (rwS f F k 0) w wr)) (fun i _ => 24 - (intOf i).toNat)
 case atStart =>
  refine ⟨0, by omega, rfl, ⟨?_, ?_, ?_⟩⟩
  ·rw [show (h || rwH f F 0) = h from by simp [rwH, orB]]
   exact Upd.then (Upd.refl HC.out) (by (repeat (first | with_reducible exact Below.refl _ _ | with_reducible apply Below.drew | (with_reducible refine below_drewN ?_ _) | (with_reducible refine Below.alloc ?_ (by (try simp) <;> omega) _) | (with_reducible refine Below.setCell ?_ (by (try simp) <;> omega) _))))
  ·exact (Blk.new w _ _ _).alloc _
  ·rw [zrows]; exact (Blk.new1 w _ _ _ _).congr fun i hi => by simp [rwS]
 case round =>
  obtain ⟨k, hk, rfl, R⟩ := hrel
  by_cases hlt : k < 24
  ·have PB := R.out.pb
   have d1 : decide ((k : Int) < 24) = true := by simp; omega
   obtain ⟨wo, rfl⟩ : ∃ wo : World, wo = wr := ⟨_, rfl⟩
   go_wp2_with fail
   go_loopw [18] (fun i wr => ∃ m : Nat, m ≤ k + 1 ∧ i = .int .i64 m ∧ Hid (Below wo.heap.size wo wr ∧ Blk wr wo.heap.size 22 24 (fun j => if j < m then colF f k j else 0))) (fun i _ => k + 1 - (intOf i).toNat)
   case atStart =>
    refine ⟨0, by omega, rfl, by (repeat (first | with_reducible exact Below.refl _ _ | with_reducible apply Below.drew | (with_reducible refine below_drewN ?_ _) | (with_reducible refine Below.alloc ?_ (by (try simp) <;> omega) _) | (with_reducible refine Below.setCell ?_ (by (try simp) <;> omega) _))), ?_⟩
    rw [zcol]; exact (Blk.new wo _ _ _).congr fun i hi => by simp
   case round =>
    obtain ⟨m, hm, rfl, Q⟩ := hrel
    by_cases hmk : m < k + 1
    ·have PB2 := PB.below Q.out.1
     go_wp2_with (first | (refine wpList_load_row rfl 26 _ rfl w.heap.size rfl 26 _ (0, 0) _ PB2 Tryz.underlying26 rfl (icov.trans (by rw [arrv_size])) ?_))
     refine (u_any f m k _ (by omega) hlt).mono ?_; rintro e w2 ⟨rfl, hb2⟩
     have Q2 := Q.out.2.below hb2
     have q0 := Q2.cell (i := m) (by omega)
     have q1 := Q2.free m
     have HB2 := Lib.hid (Below.after Q.out.1 hb2)
     clear hb2 PB2
     go_wp2_with fail
     go_roundw
     case rel =>
      refine ⟨m + 1, by omega, by go_num, HB2.out.setCell (Nat.le_refl _) _, ?_⟩
      refine (Q2.set _ _).congr fun i hi => ?_
      simp only [Go.Proofs.YtgfklheepkgedaaGreat.upd]
      by_cases h1 : i = m
      ·subst h1; rw [if_pos rfl, if_pos (by omega)]; simp [colF]; omega
      ·rw [if_neg h1]; split <;> split <;> first | rfl | omega
     case measure => simp [intOf]; omega
    ·have hmk1 : m = k + 1 := by omega
     subst hmk1
     have CB := Q.out.2.congr (g := colF f k) fun i hi => by simp [colF]; omega
     have UU := Lib.hid ((R.out.upd.then Q.out.1))
     have PB3 := PB.below Q.out.1
     have WB := R.out.wb.below Q.out.1
     have hbs : w.heap.size + 1 < wo.heap.size := R.out.wb.lt
     clear Q hm hmk R PB
     obtain ⟨bc, hbc⟩ : ∃ bc, wo.heap.size = bc := ⟨_, rfl⟩
     rw [hbc] at CB hbs ⊢
     clear hbc
     rw [show ((k + 1 : Nat) : Int) = (k : Int) + 1 from by omega]
     go_wp2_with fail
     go_loopw [28] (fun i wr => ∃ m : Nat, m ≤ 24 ∧ i = .int .i64 m ∧ Hid (RowsR c (h || rwH f F k || orB (fun i => rwB f F i k) m) f (rwS f F k m) w wr ∧ Blk wr bc 22 24 (colF f k))) (fun i _ => 24 - (intOf i).toNat)
     case atStart =>
      refine ⟨0, by omega, rfl, ⟨?_, PB3, WB⟩, CB⟩
      rw [show (h || rwH f F k || orB (fun i => rwB f F i k) 0) = (h || rwH f F k) from by simp [orB]]
      exact UU.out
     case round =>
      obtain ⟨m, hm, rfl, Q⟩ := hrel
      by_cases hm24 : m < 24
      ·have rc := Q.out.1.upd.cellc HC.out
       have rf := (Q.out.1.upd.frozen hcb).trans HF.out
       have MB := HM.out.upd Q.out.1.upd hfc
       go_wp2_with fail
       have d2 : decide ((m : Int) < 24) = true := by simp; omega
       have hk0 : (0 : Int) ≤ (k : Int) := Int.natCast_nonneg _
       have hm0 : (0 : Int) ≤ (m : Int) := Int.natCast_nonneg _
       have hk1 : (k : Int) < 24 := by omega
       have hm1 : (m : Int) < 24 := by omega
       have wb0 := Q.out.1.wb.cell (i := m * 48 + k) (by omega)
       have wb1 := Q.out.1.wb.free (m * 48 + k)
       have ga : ∀ i, i < 24 → wr.drew.cell? ⟨fb, m * 24 + i, none⟩ = some (.int .i64 (rowF 24 F m i)) := fun i hi => (MB.cell (i := m * 24 + i) (by omega)).trans rfl
       have gb : ∀ i, i < 24 → wr.drew.cell? ⟨bc, 0 + i, none⟩ = some (.int .i64 (colF f k i)) := fun i hi => by rw [Nat.zero_add]; exact Q.out.2.cell (i := i) hi
       have DC := Lib.hid (dot_any c _ 30 _ _ fb (m * 24) 24 bc 0 24 24 wr.drew rc rf (by decide) (by decide) (by decide) ga gb)
       clear ga gb
       go_region_with (go_at_call 51; (refine DC.out.mono ?_); rintro e w3 ⟨rfl, hu3⟩; (have wb3 := (Q.out.1.wb.drew.upd hu3 (Q.out.1.wb.flag rc)).cell (i := m * 48 + k) (by omega)); (have fz3 := (Q.out.1.wb.drew.upd hu3 (Q.out.1.wb.flag rc)).free (m * 48 + k)))
       have U3 : Upd c (h || rwH f F k || orB (fun i => rwB f F i k) m || rwB f F m k) wr w3 := Upd.after (Below.drew (Below.refl _ _)) hu3
       have W3 := Q.out.1.wb.upd U3 (Q.out.1.wb.flag rc)
       have P3 := Q.out.1.pb.upd U3 (Q.out.1.pb.flag rc)
       have C3 := Q.out.2.upd U3 (Q.out.2.flag rc)
       have HU3 := Lib.hid U3
       clear U3 hu3 wb3 fz3 wb0 wb1
       go_wp2_with fail
       go_roundw
       case rel =>
        refine ⟨m + 1, by omega, by go_num, ⟨?_, P3.other (by simp) _, ?_⟩, C3.other (by simp; omega) _⟩
        ·rw [show (h || rwH f F k || orB (fun i => rwB f F i k) (m + 1)) = (h || rwH f F k || orB (fun i => rwB f F i k) m || rwB f F m k) from by simp [orB, Bool.or_assoc]]
         exact (Q.out.1.upd.trans HU3.out).setCell (by simp) _
        ·refine (W3.set _ _).congr fun i hi => ?_
         simp only [Go.Proofs.YtgfklheepkgedaaGreat.upd, rwS, rwV]
         by_cases h1 : i = m * 48 + k
         ·subst h1
          rw [if_pos rfl, if_pos (by omega), show (m * 48 + k) / 48 = m by omega, show (m * 48 + k) % 48 = k by omega]
         ·rw [if_neg h1]; split <;> split <;> first | rfl | omega
       case measure => simp [intOf]; omega
      ·have hm1 : m = 24 := by omega
       subst hm1
       rw [show ((24 : Nat) : Int) = 24 from rfl]
       have HQ := Lib.hid Q.out.1
       clear Q hm hm24 CB UU PB3 WB hbs
       go_wp2_with fail
       go_roundw
       case rel =>
        refine ⟨k + 1, by omega, by go_num, ⟨?_, HQ.out.pb, ?_⟩⟩
        ·rw [show (h || rwH f F (k + 1)) = (h || rwH f F k || orB (fun i => rwB f F i k) 24) from by simp [rwH, orB, Bool.or_assoc]]
         exact HQ.out.upd
        ·exact HQ.out.wb.congr fun i hi => by simp only [rwS]; split <;> split <;> first | rfl | omega
       case measure => simp [intOf]; omega
  ·have hk24 : k = 24 := by omega
   subst hk24
   rw [show ((24 : Nat) : Int) = 24 from rfl]
   have HQ := R
   clear R hk hlt
   go_wp2_with fail
   go_loopw [45] (fun i wr => ∃ m : Nat, m ≤ 24 ∧ i = .int .i64 m ∧ Hid (RowsR c (h || rwH f F 24) f (rwE f F m) w wr)) (fun i _ => 24 - (intOf i).toNat)
   case atStart =>
    exact ⟨0, by omega, rfl, ⟨HQ.out.upd, HQ.out.pb, HQ.out.wb.congr fun i hi => by simp [rwE]⟩⟩
   case round =>
    obtain ⟨m, hm, rfl, Q⟩ := hrel
    by_cases hm24 : m < 24
    ·have wb0 := Q.out.wb.cell (i := m * 48 + (24 + m)) (by omega)
     have wb1 := Q.out.wb.free (m * 48 + (24 + m))
     go_wp2_with fail
     go_roundw
     case rel =>
      refine ⟨m + 1, by omega, by go_num, ⟨Q.out.upd.setCell (by simp) _, Q.out.pb.other (by simp) _, ?_⟩⟩
      refine (Q.out.wb.set _ _).congr fun i hi => ?_
      simp only [Go.Proofs.YtgfklheepkgedaaGreat.upd, rwE]
      by_cases h1 : i = m * 48 + (24 + m)
      ·subst h1; rw [if_pos rfl, if_pos (by omega)]
      ·rw [if_neg h1]; split <;> split <;> first | rfl | omega
     case measure => simp [intOf]; omega
    ·have hm1 : m = 24 := by omega
     subst hm1
     have HQ2 := Lib.hid Q.out
     clear Q hm hm24 HQ
     go_wp2_with fail
     go_ret
     refine ⟨rfl, HQ2.out.upd, HQ2.out.wb.congr fun i hi => ?_⟩
     simp only [rwE, rowsW, rwS]
     by_cases h1 : i % 48 < 24
     ·rw [if_neg (by omega), if_pos h1, if_pos (by omega)]
     ·rw [if_neg h1, if_neg (show ¬ (i % 48 < 24 ∨ i % 48 = 24 ∧ i / 48 < 0) by omega)]
      split <;> split <;> first | rfl | omega
end Go.Proofs.YtgfklheepkgedaaGreat
/- thornton.Step (1): the numbers, and the first loop. -/
namespace Go.Proofs.YtgfklheepkgedaaGreat
open Go.RowKit
set_option maxRecDepth 100000
def qV (a : Int) : Int := clampV a 0 72057594037927936
def qH (a : Int) : Bool := clampH a 0 72057594037927936
/-- Step's first loop: E, and the matrix clamped. -/
def eS (p q : Nat → Int) (i : Nat) : Nat → Int := fun x => if x < i then p (276 + x) else if 24 ≤ x ∧ x < 24 + i then qV (q (x - 24)) else 0
def fS (F : Nat → Int) (i k : Nat) : Nat → Int := fun x => if x / 24 < i ∨ (x / 24 = i ∧ x % 24 < k) then satV (F x) else F x
def row1H (F : Nat → Int) (i k : Nat) : Bool := orB (fun k => satH (F (i * 24 + k))) k
def loop1H (q F : Nat → Int) (i : Nat) : Bool := orB (fun i => qH (q i) || row1H F i 24) i
structure Step1R (c : Addr) (h : Bool) (p F q : Nat → Int) (w wr : World) : Prop where
 upd : Upd c h w wr
 pb : Blk wr w.heap.size 26 300 p
 fb : Blk wr (w.heap.size + 1) 96 576 F
 qb : Blk wr (w.heap.size + 1 + 1) 22 24 q
 rb : Blk wr (w.heap.size + 1 + 1 + 1) 26 300 (fun _ => 0)
theorem Step1R.other {c : Addr} {h : Bool} {p F q : Nat → Int} {w wr : World} (s : Step1R c h p F q w wr) {b o : Nat} (hb : w.heap.size + 3 < b) (v : Value) : Step1R c h p F q w (wr.setCell ⟨b, o, none⟩ v) :=
 ⟨s.upd.setCell (by simp; omega) _, s.pb.other (by simp; omega) _, s.fb.other (by simp; omega) _, s.qb.other (by simp; omega) _, s.rb.other (by simp; omega) _⟩
theorem Step1R.upd' {c : Addr} {h h' : Bool} {p F q : Nat → Int} {w wr w' : World} (s : Step1R c h p F q w wr) (hc : c.block < w.heap.size) (u : Upd c h' wr w') : Step1R c h' p F q w w' :=
 ⟨s.upd.trans u, s.pb.upd u (by omega), s.fb.upd u (by omega), s.qb.upd u (by omega), s.rb.upd u (by omega)⟩
theorem zvec : (#[.int .i64 0, .int .i64 0, .int .i64 0, .int .i64 0, .int .i64 0, .int .i64 0, .int .i64 0, .int .i64 0, .int .i64 0, .int .i64 0, .int .i64 0, .int .i64 0, .int .i64 0, .int .i64 0, .int .i64 0, .int .i64 0, .int .i64 0, .int .i64 0, .int .i64 0, .int .i64 0, .int .i64 0, .int .i64 0, .int .i64 0, .int .i64 0, .int .i64 0, .int .i64 0, .int .i64 0, .int .i64 0, .int .i64 0, .int .i64 0, .int .i64 0, .int .i64 0, .int .i64 0, .int .i64 0, .int .i64 0, .int .i64 0, .int .i64 0, .int .i64 0, .int .i64 0, .int .i64 0, .int .i64 0, .int .i64 0, .int .i64 0, .int .i64 0, .int .i64 0, .int .i64 0, .int .i64 0, .int .i64 0] : Array Value) = arrv 48 (fun _ => 0) := by kernel_rfl
/-- What holds while the rows are eliminated. -/
structure StR (c : Addr) (h : Bool) (eb wb ob : Nat) (E W O : Nat → Int) (w wr : World) : Prop where
 upd : Upd c h w wr
 eB : Blk wr eb 130 48 E
 wB : Blk wr wb 146 1152 W
 oB : Blk wr ob 26 300 O
 rB : Blk wr (w.heap.size + 1 + 1 + 1) 26 300 (fun _ => 0)
theorem StR.upd' {c : Addr} {h h' : Bool} {eb wb ob : Nat} {E W O : Nat → Int} {w wr w' : World} (s : StR c h eb wb ob E W O w wr) (hc : c.block < w.heap.size) (h1 : w.heap.size ≤ eb) (h2 : w.heap.size ≤ wb) (h3 : w.heap.size ≤ ob) (u : Upd c h' wr w') : StR c h' eb wb ob E W O w w' :=
 ⟨s.upd.trans u, s.eB.upd u (by omega), s.wB.upd u (by omega), s.oB.upd u (by omega), s.rB.upd u (by omega)⟩
theorem StR.below {c : Addr} {h : Bool} {eb wb ob : Nat} {E W O : Nat → Int} {w wr w' : World} (s : StR c h eb wb ob E W O w wr) (b : Below wr.heap.size wr w') : StR c h eb wb ob E W O w w' :=
 ⟨s.upd.then b, s.eB.below b, s.wB.below b, s.oB.below b, s.rB.below b⟩
theorem StR.other {c : Addr} {h : Bool} {eb wb ob : Nat} {E W O : Nat → Int} {w wr : World} (s : StR c h eb wb ob E W O w wr) {b o : Nat} (n0 : w.heap.size ≤ b) (n1 : b ≠ eb) (n2 : b ≠ wb) (n3 : b ≠ ob) (n4 : b ≠ w.heap.size + 1 + 1 + 1) (v : Value) : StR c h eb wb ob E W O w (wr.setCell ⟨b, o, none⟩ v) :=
 ⟨s.upd.setCell n0 _, s.eB.other (by simp; omega) _, s.wB.other (by simp; omega) _, s.oB.other (by simp; omega) _, s.rB.other (by simp; omega) _⟩
/-- Step's answer. -/
def stepE (f q : Nat → Int) : Nat → Int := eS (condF f) q 24
def stepW (f F : Nat → Int) : Nat → Int := rowsW (condF f) (fS F 24 0)
def stepF (f F q : Nat → Int) : Nat → Int := ON (stepW f F) (stepE f q) 24
def stepH (f F q : Nat → Int) : Bool := condH f || loop1H q F 24 || rowsH (condF f) (fS F 24 0) || HN (stepW f F) (stepE f q) 24
set_option maxHeartbeats 4000000 in
theorem step_any (c : Addr) (h : Bool) (f F q : Nat → Int) (w : World) (hc : w.cell? c = some (.bool h)) (hf : w.frozen? c = false) :
  Calls Tryz.prog 55 #[.pointer (some c), .agg (arrv 300 f), .agg (arrv 576 F), .agg (arrv 24 q)] w fun e w' =>
   e = .returned (.agg (arrv 300 (stepF f F q))) ∧ Upd c (h || stepH f F q) w w' := by
 have hcb := World.block_lt_of_cell? w c hc
 go_enter Tryz.func55, Tryz.ntmps55
 go_upto_region 1 with fail
 have S0 : Step1R c h f F q w ((((w.alloc (.cells (arrv 300 f) 26)).alloc (.cells (arrv 576 F) 96)).alloc (.cells (arrv 24 q) 22)).alloc (.cells Tryz.zeroCells26 26)) := by
  rw [zcov]
  refine ⟨Upd.then (Upd.refl hc) (by (repeat (first | with_reducible exact Below.refl _ _ | with_reducible apply Below.drew | (with_reducible refine below_drewN ?_ _) | (with_reducible refine Below.alloc ?_ (by (try simp) <;> omega) _) | (with_reducible refine Below.setCell ?_ (by (try simp) <;> omega) _)))), ?_, ?_, ?_, ?_⟩
  ·exact (((Blk.new w _ _ _).alloc _).alloc _).alloc _
  ·exact ((Blk.new1 w _ _ _ _).alloc _).alloc _
  ·exact (blk_new2 w _ _ _ _ _).alloc _
  ·exact blk_new3 w _ _ _ _ _ _
 generalize (((w.alloc (.cells (arrv 300 f) 26)).alloc (.cells (arrv 576 F) 96)).alloc (.cells (arrv 24 q) 22)).alloc (.cells Tryz.zeroCells26 26) = W0 at *
 have c0 := S0.upd.cellc hc
 have f0 := (S0.upd.frozen hcb).trans hf
 have P0 := S0.pb
 have HS0 := Lib.hid S0
 have HC := Lib.hid hc
 have HF := Lib.hid hf
 clear S0 hc hf
 go_wp2_with (first | (refine wpList_load_row rfl 26 _ rfl w.heap.size rfl 26 _ (0, 0) _ P0 Tryz.underlying26 rfl (icov.trans (by rw [arrv_size])) ?_) | (go_at_call 88; (refine (cond_any c h f _ c0 f0).mono ?_); rintro e w1 ⟨rfl, hu1⟩; have P1 := P0.upd hu1 (by omega)) | (refine wpList_store_row rfl 26 _ _ rfl w.heap.size _ rfl rfl 26 _ P1 (icov.trans (by rw [arrv_size])) (by rw [arrv_size, arrv_size]) (oneCell_arrv _ _) ?_))
 have hw1 : w.heap.size + 3 < w1.heap.size := by have := HS0.out.rb.lt; have := hu1.size; omega
 have S1 : Step1R c (h || condH f) (condF f) F q w ((w1.setRow w.heap.size (arrv 300 (condF f))).alloc (.cells #[.int .i64 0, .int .i64 0, .int .i64 0, .int .i64 0, .int .i64 0, .int .i64 0, .int .i64 0, .int .i64 0, .int .i64 0, .int .i64 0, .int .i64 0, .int .i64 0, .int .i64 0, .int .i64 0, .int .i64 0, .int .i64 0, .int .i64 0, .int .i64 0, .int .i64 0, .int .i64 0, .int .i64 0, .int .i64 0, .int .i64 0, .int .i64 0, .int .i64 0, .int .i64 0, .int .i64 0, .int .i64 0, .int .i64 0, .int .i64 0, .int .i64 0, .int .i64 0, .int .i64 0, .int .i64 0, .int .i64 0, .int .i64 0, .int .i64 0, .int .i64 0, .int .i64 0, .int .i64 0, .int .i64 0, .int .i64 0, .int .i64 0, .int .i64 0, .int .i64 0, .int .i64 0, .int .i64 0, .int .i64 0] 130)) := by
  have S := HS0.out.upd' hcb hu1
  refine ⟨?_, ?_, ?_, ?_, ?_⟩
  ·exact (S.upd.then' (below_row (Below.refl _ _) (Nat.le_refl _) _)).alloc _
  ·exact (P1.setRow _).alloc _
  ·exact (S.fb.setRow_other _ (by omega)).alloc _
  ·exact (S.qb.setRow_other _ (by omega)).alloc _
  ·exact (S.rb.setRow_other _ (by omega)).alloc _
 have E1 : Blk ((w1.setRow w.heap.size (arrv 300 (condF f))).alloc (.cells #[.int .i64 0, .int .i64 0, .int .i64 0, .int .i64 0, .int .i64 0, .int .i64 0, .int .i64 0, .int .i64 0, .int .i64 0, .int .i64 0, .int .i64 0, .int .i64 0, .int .i64 0, .int .i64 0, .int .i64 0, .int .i64 0, .int .i64 0, .int .i64 0, .int .i64 0, .int .i64 0, .int .i64 0, .int .i64 0, .int .i64 0, .int .i64 0, .int .i64 0, .int .i64 0, .int .i64 0, .int .i64 0, .int .i64 0, .int .i64 0, .int .i64 0, .int .i64 0, .int .i64 0, .int .i64 0, .int .i64 0, .int .i64 0, .int .i64 0, .int .i64 0, .int .i64 0, .int .i64 0, .int .i64 0, .int .i64 0, .int .i64 0, .int .i64 0, .int .i64 0, .int .i64 0, .int .i64 0, .int .i64 0] 130)) w1.heap.size 130 48 (fun _ => 0) := by
  have := Blk.new (w1.setRow w.heap.size (arrv 300 (condF f))) 130 48 (fun _ => 0)
  rwa [← zvec, show (w1.setRow w.heap.size (arrv 300 (condF f))).heap.size = w1.heap.size from by simp] at this
 generalize (w1.setRow w.heap.size (arrv 300 (condF f))).alloc (.cells #[.int .i64 0, .int .i64 0, .int .i64 0, .int .i64 0, .int .i64 0, .int .i64 0, .int .i64 0, .int .i64 0, .int .i64 0, .int .i64 0, .int .i64 0, .int .i64 0, .int .i64 0, .int .i64 0, .int .i64 0, .int .i64 0, .int .i64 0, .int .i64 0, .int .i64 0, .int .i64 0, .int .i64 0, .int .i64 0, .int .i64 0, .int .i64 0, .int .i64 0, .int .i64 0, .int .i64 0, .int .i64 0, .int .i64 0, .int .i64 0, .int .i64 0, .int .i64 0, .int .i64 0, .int .i64 0, .int .i64 0, .int .i64 0, .int .i64 0, .int .i64 0, .int .i64 0, .int .i64 0, .int .i64 0, .int .i64 0, .int .i64 0, .int .i64 0, .int .i64 0, .int .i64 0, .int .i64 0, .int .i64 0] 130) = W1 at *
 clear P0 P1 hu1 HS0 c0 f0
 generalize w1.heap.size = eb at *
 clear w1 W0
 have HS1 := Lib.hid S1
 have HE1 := Lib.hid E1
 clear S1 E1
 go_loopw [24] (fun i wr => ∃ k : Nat, k ≤ 24 ∧ i = .int .i64 k ∧ Hid (Step1R c (h || condH f || loop1H q F k) (condF f) (fS F k 0) q w wr ∧ Blk wr eb 130 48 (eS (condF f) q k))) (fun i _ => 24 - (intOf i).toNat)
 case atStart =>
  refine ⟨0, by omega, rfl, ⟨?_, HS1.out.pb, HS1.out.fb.congr fun i hi => by simp [fS], HS1.out.qb, HS1.out.rb⟩, HE1.out.congr fun i hi => by simp [eS]; omega⟩
  rw [show (h || condH f || loop1H q F 0) = (h || condH f) from by simp [loop1H, orB]]
  exact HS1.out.upd
 case round =>
  obtain ⟨k, hk, rfl, R⟩ := hrel
  by_cases hlt : k < 24
  ·have d1 : decide ((k : Int) < 24) = true := by simp; omega
   have hk0 : (0 : Int) ≤ (k : Int) := Int.natCast_nonneg _
   have hk1 : (k : Int) < 24 := by omega
   have hk2 : (k : Int) < 48 := by omega
   have hk3 : 0 ≤ 24 + (k : Int) := by omega
   have hk4 : 24 + (k : Int) < 48 := by omega
   have hk5 : (24 + (k : Int)).toNat = 24 + k := by omega
   have iw : IntKind.i64.wrap (24 + (k : Int)) = 24 + (k : Int) := IntWalk.i64_in _ (by omega)
   have rc := R.out.1.upd.cellc HC.out
   have rf := (R.out.1.upd.frozen hcb).trans HF.out
   have p0 := R.out.1.pb.cell (i := 276 + k) (by omega)
   have q0 := R.out.1.qb.cell (i := k) (by omega)
   have e0 := R.out.2.cell (i := k) (by omega)
   have e1 := R.out.2.cell (i := 24 + k) (by omega)
   have ef := R.out.2.free k
   have ef1 := R.out.2.free (24 + k)
   have n0 := ne_of_cells rc p0
   have n1 := ne_of_cells rc q0
   have n2 := ne_of_cells rc e0
   have n3 := ne_of_cells rc e1
   have m0 : eb ≠ w.heap.size := by omega
   have m2 : eb ≠ w.heap.size + 1 + 1 := by omega
   have A1 : Upd c (h || condH f || loop1H q F k || qH (q k)) wr (wr.drew.setCell c (.bool (h || condH f || loop1H q F k || qH (q k)))) := Upd.after (Below.drew (Below.refl _ _)) (Upd.set c _ wr.drew)
   have A2 := (R.out.1.upd' hcb A1)
   have A3 := R.out.2.upd A1 (R.out.2.flag rc)
   have HA2 := Lib.hid A2
   have HA3 := Lib.hid A3
   clear A1 A2 A3
   have cc := clamp_any c (h || condH f || loop1H q F k) (q k) 0 72057594037927936 wr.drew rc rf
   have CC := Lib.hid cc
   clear cc
   go_upto_region 6 with fail
   refine wp_region_M (fun w' => w'.cell? ⟨w.heap.size, 276 + k, none⟩ = some (.int .i64 (condF f (276 + k))) ∧ w'.cell? ⟨w.heap.size + 1 + 1, k, none⟩ = some (.int .i64 (q k))) 15 (by kernel_rfl) ?_ (fun hHeld => ?_)
   ·exact ⟨p0, q0⟩
   refine tk 0 ?_
   (try simp only [Act.put, nA, nB, nC])
   refine tk 1 ?_
   (try simp only [Act.put, nA, nB, nC])
   refine tk 2 ?_
   (try simp only [Act.put, nA, nB, nC])
   refine tk 3 ?_
   (try simp only [Act.put, nA, nB, nC])
   refine tk 4 ?_
   (try simp only [Act.put, nA, nB, nC])
   refine tk 5 ?_
   (try simp only [Act.put, nA, nB, nC])
   refine tk 6 ?_
   (try simp only [Act.put, nA, nB, nC])
   refine tk 7 ?_
   (try simp only [Act.put, nA, nB, nC])
   refine tk 8 ?_
   (try simp only [Act.put, nA, nB, nC])
   refine tk 9 ?_
   (try simp only [Act.put, nA, nB, nC])
   refine tk 10 ?_
   (try simp only [Act.put, nA, nB, nC])
   refine tk 12 ?_
   (try simp only [Act.put, nA, nB, nC])
   refine wpAnyM_oneS 11 rfl (by kernel_rfl) (fun K hK => ?_)
   go_simp
   (refine CC.out.mono ?_); rintro e w' ⟨rfl, rfl⟩
   (try dsimp only)
   (try simp only [Act.put, nA, nB, nC])
   clear hHeld
   refine hK.out _ _ ?_ (fun hHeld => ?_)
   ·simp [go_sem, *]
   clear hK K
   (try simp only [Act.put, nA, nB, nC])
   refine wpAnyM_oneS 13 rfl (by kernel_rfl) (fun K hK => ?_)
   go_simp
   clear hHeld
   refine hK.out _ _ ?_ (fun hHeld => ?_)
   ·simp [go_sem, *]
   clear hK K
   (try simp only [Act.put, nA, nB, nC])
   refine tk 14 ?_
   (try simp only [Act.put, nA, nB, nC])
   refine wpAnyM_one 15 rfl (by kernel_rfl) (fun K hK => ?_)
   go_simp
   refine hK.out _ _ (.inl (by kernel_rfl)) (fun _ => ?_)
   clear hK K
   (try simp only [Act.put, nA, nB, nC])
   refine wpAnyM_done (by kernel_rfl) ?_ _
   have HB2 := HA2.out.other (b := eb) (o := k) (by omega) (.int .i64 (condF f (276 + k))) |>.other (b := eb) (o := 24 + k) (by omega) (.int .i64 (qV (q k)))
   have HB3 := (HA3.out.set k (condF f (276 + k))).set (24 + k) (qV (q k))
   clear iw hk3 hk4 hk5 hHeld CC p0 q0 e0 e1 ef ef1 n0 n1 n2 n3
   go_wp2_with fail
   go_loopw [41] (fun i wr => ∃ m : Nat, m ≤ 24 ∧ i = .int .i64 m ∧ Hid (Step1R c (h || condH f || loop1H q F k || qH (q k) || row1H F k m) (condF f) (fS F k m) q w wr ∧ Blk wr eb 130 48 (eS (condF f) q (k + 1)))) (fun i _ => 24 - (intOf i).toNat)
   case atStart =>
    refine ⟨0, by omega, rfl, ⟨?_, HB2.pb, HB2.fb, HB2.qb, HB2.rb⟩, ?_⟩
    ·rw [show (h || condH f || loop1H q F k || qH (q k) || row1H F k 0) = (h || condH f || loop1H q F k || qH (q k)) from by simp [row1H, orB]]
     exact HB2.upd
    ·refine Blk.congr HB3 fun i hi => ?_
     simp only [Go.Proofs.YtgfklheepkgedaaGreat.upd, eS]
     by_cases h1 : i = 24 + k
     ·subst h1; rw [if_pos rfl, if_neg (by omega), if_pos (by omega), show 24 + k - 24 = k by omega]
     ·rw [if_neg h1]
      by_cases h2 : i = k
      ·subst h2; rw [if_pos rfl, if_pos (by omega)]
      ·rw [if_neg h2]; repeat' split
       all_goals first | rfl | omega
   case round =>
    obtain ⟨m, hm, rfl, Q⟩ := hrel
    by_cases hm24 : m < 24
    ·have d2 : decide ((m : Int) < 24) = true := by simp; omega
     have hm0 : (0 : Int) ≤ (m : Int) := Int.natCast_nonneg _
     have hm1 : (m : Int) < 24 := by omega
     have rc := Q.out.1.upd.cellc HC.out
     have rf := (Q.out.1.upd.frozen hcb).trans HF.out
     have x0 := Q.out.1.fb.cell (i := k * 24 + m) (by omega)
     have x1 := Q.out.1.fb.free (k * 24 + m)
     have n0 := ne_of_cells rc x0
     have hv : fS F k m (k * 24 + m) = F (k * 24 + m) := by simp only [fS]; rw [if_neg (by omega)]
     rw [hv] at x0
     have A1 : Upd c (h || condH f || loop1H q F k || qH (q k) || row1H F k m || satH (F (k * 24 + m))) wr (wr.drew.setCell c (.bool (h || condH f || loop1H q F k || qH (q k) || row1H F k m || satH (F (k * 24 + m))))) := Upd.after (Below.drew (Below.refl _ _)) (Upd.set c _ wr.drew)
     have HA2 := Lib.hid (Q.out.1.upd' hcb A1)
     have HA3 := Lib.hid (Q.out.2.upd A1 (Q.out.2.flag rc))
     have CC := Lib.hid (sat_any c (h || condH f || loop1H q F k || qH (q k) || row1H F k m) (F (k * 24 + m)) wr.drew rc rf)
     clear A1 hv
     go_upto_region 10 with fail
     refine wp_region_M (fun w' => w'.cell? ⟨w.heap.size + 1, k * 24 + m, none⟩ = some (.int .i64 (F (k * 24 + m)))) 11 (by kernel_rfl) ?_ (fun hHeld => ?_)
     ·exact x0
     refine tk 0 ?_
     (try simp only [Act.put, nA, nB, nC])
     refine tk 1 ?_
     (try simp only [Act.put, nA, nB, nC])
     refine tk 2 ?_
     (try simp only [Act.put, nA, nB, nC])
     refine tk 3 ?_
     (try simp only [Act.put, nA, nB, nC])
     refine tk 4 ?_
     (try simp only [Act.put, nA, nB, nC])
     refine tk 5 ?_
     (try simp only [Act.put, nA, nB, nC])
     refine tk 6 ?_
     (try simp only [Act.put, nA, nB, nC])
     refine tk 7 ?_
     (try simp only [Act.put, nA, nB, nC])
     refine wpAnyM_takeW 9 (v := ?_) rfl (by kernel_rfl) (fun _ _ _ h => h) (Or.inl ⟨by rfl, ?_⟩) (.inr (by assumption)) ?_
     rotate_left
     ·(intro wx hSw; (try dsimp only at hSw); go_simp; (try with_reducible rfl))
     (try simp only [Act.put, nA, nB, nC])
     refine wpAnyM_oneS 8 rfl (by kernel_rfl) (fun K hK => ?_)
     go_simp
     (refine CC.out.mono ?_); rintro e w' ⟨rfl, rfl⟩
     (try dsimp only)
     (try simp only [Act.put, nA, nB, nC])
     clear hHeld
     refine hK.out _ _ ?_ (fun hHeld => ?_)
     ·simp [go_sem, *]
     clear hK K
     (try simp only [Act.put, nA, nB, nC])
     refine tk 10 ?_
     (try simp only [Act.put, nA, nB, nC])
     refine wpAnyM_one 11 rfl (by kernel_rfl) (fun K hK => ?_)
     go_simp
     refine hK.out _ _ (.inl (by kernel_rfl)) (fun _ => ?_)
     clear hK K
     (try simp only [Act.put, nA, nB, nC])
     refine wpAnyM_done (by kernel_rfl) ?_ _
     have HC2 := HA2.out
     go_wp2_with fail
     go_roundw
     case rel =>
      refine ⟨m + 1, by omega, by go_num, ⟨?_, HC2.pb.other (by (try simp) <;> omega) _, ?_, HC2.qb.other (by (try simp) <;> omega) _, HC2.rb.other (by (try simp) <;> omega) _⟩, HA3.out.other (by simp; omega) _⟩
      ·rw [show (h || condH f || loop1H q F k || qH (q k) || row1H F k (m + 1)) = (h || condH f || loop1H q F k || qH (q k) || row1H F k m || satH (F (k * 24 + m))) from by simp [row1H, orB, Bool.or_assoc]]
       exact HC2.upd.setCell (by simp) _
      ·refine (HC2.fb.set _ _).congr fun i hi => ?_
       simp only [Go.Proofs.YtgfklheepkgedaaGreat.upd, fS]
       by_cases h1 : i = k * 24 + m
       ·subst h1; rw [if_pos rfl, if_pos (by omega)]
       ·rw [if_neg h1]; split <;> split <;> first | rfl | omega
     case measure => simp [intOf]; omega
    ·have hm1 : m = 24 := by omega
     subst hm1
     rw [show ((24 : Nat) : Int) = 24 from rfl]
     have HQ := Lib.hid Q.out
     clear Q hm hm24
     go_wp2_with fail
     go_roundw
     case rel =>
      refine ⟨k + 1, by omega, by go_num, ⟨?_, HQ.out.1.pb, ?_, HQ.out.1.qb, HQ.out.1.rb⟩, HQ.out.2⟩
      ·rw [show (h || condH f || loop1H q F (k + 1)) = (h || condH f || loop1H q F k || qH (q k) || row1H F k 24) from by simp [loop1H, orB, Bool.or_assoc]]
       exact HQ.out.1.upd
      ·exact HQ.out.1.fb.congr fun i hi => by simp only [fS]; split <;> split <;> first | rfl | omega
     case measure => simp [intOf]; omega
  ·have hk24 : k = 24 := by omega
   subst hk24
   rw [show ((24 : Nat) : Int) = 24 from rfl]
   have P0 := R.out.1.pb
   have F0 := R.out.1.fb
   have rc := R.out.1.upd.cellc HC.out
   have rf := (R.out.1.upd.frozen hcb).trans HF.out
   have HR := Lib.hid R.out
   clear R hk hlt
   have he0 : Hid (w.heap.size + 3 < eb) := hw1
   have heb : Hid (eb < wr.heap.size) := HR.out.2.lt
   go_wp2_with (first | (refine wpList_load_row rfl 26 _ rfl w.heap.size rfl 26 _ (0, 0) _ P0 Tryz.underlying26 rfl (icov.trans (by rw [arrv_size])) ?_) | (go_at_call 89; (refine (rows_any c _ (condF f) (fS F 24 0) (w.heap.size + 1) _ rc rf F0).mono ?_); rintro e w2 ⟨rfl, hu2, hW2⟩))
   have hob : w2.heap.size > wr.heap.size + 1 := hW2.lt
   have S2 : StR c (h || condH f || loop1H q F 24 || rowsH (condF f) (fS F 24 0)) eb (wr.heap.size + 1) w2.heap.size (stepE f q) (stepW f F) (fun _ => 0) w (w2.alloc (.cells Tryz.zeroCells26 26)) := by
    rw [zcov]
    exact ⟨(HR.out.1.upd.trans hu2).alloc _, (HR.out.2.upd hu2 (HR.out.2.flag rc)).alloc _, hW2.alloc _, Blk.new w2 _ _ _, (HR.out.1.rb.upd hu2 (HR.out.1.rb.flag rc)).alloc _⟩
   obtain ⟨wb, hwb⟩ : ∃ wb, wr.heap.size + 1 = wb := ⟨_, rfl⟩
   obtain ⟨ob, hobe⟩ : ∃ ob, w2.heap.size = ob := ⟨_, rfl⟩
   have k1 := he0.out
   have k2 := heb.out
   have hk1 : Hid (w.heap.size + 3 < eb ∧ eb < wb ∧ wb < ob) := ⟨k1, by omega, by omega⟩
   rw [hwb, hobe] at S2 ⊢
   generalize w2.alloc (.cells Tryz.zeroCells26 26) = W3 at *
   obtain ⟨H2, hH2⟩ : ∃ H2, (h || condH f || loop1H q F 24 || rowsH (condF f) (fS F 24 0)) = H2 := ⟨_, rfl⟩
   obtain ⟨E, hE⟩ : ∃ E, stepE f q = E := ⟨_, rfl⟩
   obtain ⟨W, hW⟩ : ∃ W, stepW f F = W := ⟨_, rfl⟩
   rw [hH2, hE, hW] at S2
   have hSH : (h || stepH f F q) = (H2 || HN W E 24) := by rw [← hH2, ← hE, ← hW]; simp [stepH, Bool.or_assoc]
   have hSF : stepF f F q = ON W E 24 := by rw [← hE, ← hW]; rfl
   have HSH := Lib.hid hSH
   have HSF := Lib.hid hSF
   have HS2 := Lib.hid S2
   clear hSH hSF hH2 hE hW S2 hu2 hW2 hob hwb hobe P0 F0 rc rf he0 heb k1 k2 hw1 HR
   go_wp2_with fail
   have heb := hk1.out.1
   go_loopw [14] (fun i wr => ∃ n : Nat, n ≤ 24 ∧ i = .int .i64 (23 - (n : Int)) ∧ Hid (StR c (H2 || HN W E n) eb wb ob E (WN W E n) (ON W E n) w wr)) (fun i _ => (intOf i + 1).toNat)
   case atStart =>
    refine ⟨0, by omega, rfl, ?_⟩
    rw [show (H2 || HN W E 0) = H2 from by simp [HN]]
    exact HS2.out
   case round =>
    obtain ⟨n, hn, rfl, R⟩ := hrel
    by_cases hlt : n < 24
    ·obtain ⟨j, hj⟩ : ∃ j : Nat, (23 : Int) - (n : Int) = (j : Int) := ⟨23 - n, by omega⟩
     have hjn : j = 23 - n := by omega
     have hj24 : j < 24 := by omega
     have d0 : decide ((0 : Int) ≤ (j : Int)) = true := by simp
     have hj0 : (0 : Int) ≤ (j : Int) := Int.natCast_nonneg _
     have hj1 : (j : Int) < 24 := by omega
     obtain ⟨V, hV⟩ : ∃ V, WN W E n = V := ⟨_, rfl⟩
     obtain ⟨O, hO⟩ : ∃ O, ON W E n = O := ⟨_, rfl⟩
     obtain ⟨H3, hH3⟩ : ∃ H3, (H2 || HN W E n) = H3 := ⟨_, rfl⟩
     have R1 := Lib.hid (show StR c H3 eb wb ob E V O w wr by rw [← hV, ← hO, ← hH3]; exact R.out)
     have HJN := Lib.hid hjn
     have HV := Lib.hid hV
     have HO := Lib.hid hO
     have HH3 := Lib.hid hH3
     rw [hj]
     have HJ := Lib.hid hj
     clear hj hjn hV hO hH3 R
     go_upto_region 19 with fail
     have hyb : Hid (ob < wr.heap.size) := R1.out.oB.lt
     have S1 : StR c H3 eb wb ob E V O w (wr.alloc (.cells #[.int .i64 0, .int .i64 0, .int .i64 0, .int .i64 0, .int .i64 0, .int .i64 0, .int .i64 0, .int .i64 0, .int .i64 0, .int .i64 0, .int .i64 0, .int .i64 0, .int .i64 0, .int .i64 0, .int .i64 0, .int .i64 0, .int .i64 0, .int .i64 0, .int .i64 0, .int .i64 0, .int .i64 0, .int .i64 0, .int .i64 0, .int .i64 0, .int .i64 0, .int .i64 0, .int .i64 0, .int .i64 0, .int .i64 0, .int .i64 0, .int .i64 0, .int .i64 0, .int .i64 0, .int .i64 0, .int .i64 0, .int .i64 0, .int .i64 0, .int .i64 0, .int .i64 0, .int .i64 0, .int .i64 0, .int .i64 0, .int .i64 0, .int .i64 0, .int .i64 0, .int .i64 0, .int .i64 0, .int .i64 0] 130)) := R1.out.below (by (repeat (first | with_reducible exact Below.refl _ _ | with_reducible apply Below.drew | (with_reducible refine below_drewN ?_ _) | (with_reducible refine Below.alloc ?_ (by (try simp) <;> omega) _) | (with_reducible refine Below.setCell ?_ (by (try simp) <;> omega) _))))
     have Y1 : Blk (wr.alloc (.cells #[.int .i64 0, .int .i64 0, .int .i64 0, .int .i64 0, .int .i64 0, .int .i64 0, .int .i64 0, .int .i64 0, .int .i64 0, .int .i64 0, .int .i64 0, .int .i64 0, .int .i64 0, .int .i64 0, .int .i64 0, .int .i64 0, .int .i64 0, .int .i64 0, .int .i64 0, .int .i64 0, .int .i64 0, .int .i64 0, .int .i64 0, .int .i64 0, .int .i64 0, .int .i64 0, .int .i64 0, .int .i64 0, .int .i64 0, .int .i64 0, .int .i64 0, .int .i64 0, .int .i64 0, .int .i64 0, .int .i64 0, .int .i64 0, .int .i64 0, .int .i64 0, .int .i64 0, .int .i64 0, .int .i64 0, .int .i64 0, .int .i64 0, .int .i64 0, .int .i64 0, .int .i64 0, .int .i64 0, .int .i64 0] 130)) wr.heap.size 130 48 (fun _ => 0) := by
      have := Blk.new wr 130 48 (fun _ => 0)
      rwa [← zvec] at this
     generalize wr.alloc (.cells #[.int .i64 0, .int .i64 0, .int .i64 0, .int .i64 0, .int .i64 0, .int .i64 0, .int .i64 0, .int .i64 0, .int .i64 0, .int .i64 0, .int .i64 0, .int .i64 0, .int .i64 0, .int .i64 0, .int .i64 0, .int .i64 0, .int .i64 0, .int .i64 0, .int .i64 0, .int .i64 0, .int .i64 0, .int .i64 0, .int .i64 0, .int .i64 0, .int .i64 0, .int .i64 0, .int .i64 0, .int .i64 0, .int .i64 0, .int .i64 0, .int .i64 0, .int .i64 0, .int .i64 0, .int .i64 0, .int .i64 0, .int .i64 0, .int .i64 0, .int .i64 0, .int .i64 0, .int .i64 0, .int .i64 0, .int .i64 0, .int .i64 0, .int .i64 0, .int .i64 0, .int .i64 0, .int .i64 0, .int .i64 0] 130) = W4 at *
     generalize wr.heap.size = yb at *
     have HS1 := Lib.hid S1
     have HY1 := Lib.hid Y1
     clear S1 Y1 R1
     go_wp2_with fail
     go_loopw [64] (fun i wr => ∃ k : Nat, k ≤ 48 ∧ i = .int .i64 k ∧ Hid (StR c (H3 || orB (yB V E j) k) eb wb ob E V O w wr ∧ Blk wr yb 130 48 (fun x => if x < k then stY V E j x else 0))) (fun i _ => 48 - (intOf i).toNat)
     case atStart =>
      refine ⟨0, by omega, rfl, ?_, HY1.out.congr fun i hi => by simp⟩
      rw [show (H3 || orB (yB V E j) 0) = H3 from by simp [orB]]
      exact HS1.out
     case round =>
      obtain ⟨k, hk, rfl, Q⟩ := hrel
      by_cases hk48 : k < 48
      ·have d2 : decide ((k : Int) < 48) = true := by simp; omega
       have hk0 : (0 : Int) ≤ (k : Int) := Int.natCast_nonneg _
       have hk1' : (k : Int) < 48 := by omega
       have rc := Q.out.1.upd.cellc HC.out
       have rf := (Q.out.1.upd.frozen hcb).trans HF.out
       have x0 := Q.out.1.wB.cell (i := j * 48 + k) (by omega)
       have x1 := Q.out.1.eB.cell (i := k) (by omega)
       have n0 := ne_of_cells rc x0
       have n1 := ne_of_cells rc x1
       have MC := Lib.hid (fmul_any c (H3 || orB (yB V E j) k) (V (j * 48 + k)) (E k) 30 wr.drew rc rf)
       go_upto_region 22 with fail
       refine wp_region_M (fun w' => w'.cell? ⟨wb, j * 48 + k, none⟩ = some (.int .i64 (V (j * 48 + k))) ∧ w'.cell? ⟨eb, k, none⟩ = some (.int .i64 (E k))) 14 (by kernel_rfl) ?_ (fun hHeld => ?_)
       ·exact ⟨x0, x1⟩
       refine tk 0 ?_
       (try simp only [Act.put, nA, nB, nC])
       refine tk 1 ?_
       (try simp only [Act.put, nA, nB, nC])
       refine tk 2 ?_
       (try simp only [Act.put, nA, nB, nC])
       refine tk 3 ?_
       (try simp only [Act.put, nA, nB, nC])
       refine tk 4 ?_
       (try simp only [Act.put, nA, nB, nC])
       refine tk 5 ?_
       (try simp only [Act.put, nA, nB, nC])
       refine tk 6 ?_
       (try simp only [Act.put, nA, nB, nC])
       refine tk 7 ?_
       (try simp only [Act.put, nA, nB, nC])
       refine tk 8 ?_
       (try simp only [Act.put, nA, nB, nC])
       refine tk 9 ?_
       (try simp only [Act.put, nA, nB, nC])
       refine tk 10 ?_
       (try simp only [Act.put, nA, nB, nC])
       refine tk 11 ?_
       (try simp only [Act.put, nA, nB, nC])
       refine wpAnyM_oneS 12 rfl (by kernel_rfl) (fun K hK => ?_)
       go_simp
       (refine MC.out.mono ?_); rintro e w6 ⟨rfl, hu6⟩; have U6 : Upd c (H3 || orB (yB V E j) k || yB V E j k) wr w6 := Upd.after (Below.drew (Below.refl _ _)) hu6; have kp := keep2 U6 x0 x1 n0 n1; have Y6 := Q.out.2.upd U6 (Q.out.2.flag rc); have y0 := Y6.cell (i := k) (by omega); have y1 := Y6.free k; have HU6 := Lib.hid U6; clear U6 hu6
       (try dsimp only)
       (try simp only [Act.put, nA, nB, nC])
       clear hHeld
       refine hK.out _ _ ?_ (fun hHeld => ?_)
       ·exact kp
       clear hK K
       (try simp only [Act.put, nA, nB, nC])
       refine tk 13 ?_
       (try simp only [Act.put, nA, nB, nC])
       refine wpAnyM_one 14 rfl (by kernel_rfl) (fun K hK => ?_)
       go_simp
       refine hK.out _ _ (.inl (by kernel_rfl)) (fun _ => ?_)
       clear hK K
       (try simp only [Act.put, nA, nB, nC])
       refine wpAnyM_done (by kernel_rfl) ?_ _
       have k4 := hk1.out
       have k5 := hyb.out
       have S6 := Lib.hid (Q.out.1.upd' hcb (by omega) (by omega) (by omega) HU6.out)
       go_wp2_with fail
       go_roundw
       case rel =>
        refine ⟨k + 1, by omega, by go_num, ?_, ?_⟩
        ·rw [show (H3 || orB (yB V E j) (k + 1)) = (H3 || orB (yB V E j) k || yB V E j k) from by simp [orB, Bool.or_assoc]]
         exact S6.out.other (by omega) (by omega) (by omega) (by omega) (by omega) _
        ·refine (Y6.set _ _).congr fun i hi => ?_
         simp only [Go.Proofs.YtgfklheepkgedaaGreat.upd]
         by_cases h1 : i = k
         ·subst h1; rw [if_pos rfl, if_pos (by omega)]; rfl
         ·rw [if_neg h1]; split <;> split <;> first | rfl | omega
       case measure => simp [intOf]; omega
      ·have hk48' : k = 48 := by omega
       subst hk48'
       rw [show ((48 : Nat) : Int) = 48 from rfl]
       have rc := Q.out.1.upd.cellc HC.out
       have rf := (Q.out.1.upd.frozen hcb).trans HF.out
       have YB : Hid (Blk wr yb 130 48 (stY V E j)) := Q.out.2.congr fun i hi => by rw [if_pos hi]
       have SB := Lib.hid Q.out.1
       clear Q hk hk48
       have ga : ∀ i, i < 48 → wr.drew.cell? ⟨wb, j * 48 + i, none⟩ = some (.int .i64 (rowF 48 V j i)) := fun i hi => (SB.out.wB.cell (i := j * 48 + i) (by omega)).trans rfl
       have gb : ∀ i, i < 48 → wr.drew.cell? ⟨yb, 0 + i, none⟩ = some (.int .i64 (stY V E j i)) := fun i hi => by rw [Nat.zero_add]; exact YB.out.cell (i := i) hi
       have DC := Lib.hid (dot_any c _ 30 _ _ wb (j * 48) 48 yb 0 48 48 wr.drew rc rf (by decide) (by decide) (by decide) ga gb)
       clear ga gb
       go_upto_region 24 with fail
       go_region_with (first | (go_at_call 51; (refine DC.out.mono ?_); rintro e w6 ⟨rfl, hu6⟩; have kc := hu6.cellc rc; have kf := (hu6.frozen (World.block_lt_of_cell? _ _ rc)).trans rf; have HU6 := Lib.hid hu6; clear hu6) | (go_at_call 72; (refine (clamp_any c _ _ _ _ _ kc kf).mono ?_); rintro e w' ⟨rfl, rfl⟩))
       have k4 := hk1.out
       have k5 := hyb.out
       have U7 : Upd c (H3 || orB (yB V E j) 48 || dB V E j) wr (w6.setCell c (.bool (H3 || orB (yB V E j) 48 || dB V E j))) := (Upd.after (Below.drew (Below.refl _ _)) HU6.out).trans (Upd.set c _ _)
       have eb7 : (H3 || orB (yB V E j) 48 || dB V E j) = (H3 || orB (yB V E j) 48 || dotH 30 (rowF 48 V j) (stY V E j) 48 || clampH (dotV 30 (rowF 48 V j) (stY V E j) 48) 1 72057594037927936) := by simp [dB, varH, Bool.or_assoc]
       have ed : clampV (dotV 30 (rowF 48 V j) (stY V E j) 48) 1 72057594037927936 = stD V E j := rfl
       rw [← eb7, ed]
       have S7 := SB.out.upd' hcb (by omega) (by omega) (by omega) U7
       have Y7 := YB.out.upd U7 (YB.out.flag rc)
       generalize w6.setCell c (.bool (H3 || orB (yB V E j) 48 || dB V E j)) = w7 at *
       obtain ⟨H4, hH4⟩ : ∃ H4, (H3 || orB (yB V E j) 48 || dB V E j) = H4 := ⟨_, rfl⟩
       rw [hH4] at S7
       have HH4 := Lib.hid hH4
       obtain ⟨D, hD⟩ : ∃ D, stD V E j = D := ⟨_, rfl⟩
       rw [hD]
       have HD := Lib.hid hD
       have o0 := S7.oB.cell (i := 276 + j) (by omega)
       have o1 := S7.oB.free (276 + j)
       have S8 : StR c H4 eb wb ob E V (outI O V E j 0) w (w7.setCell ⟨ob, 276 + j, none⟩ (.int .i64 D)) := by
        have h8 := S7.oB.set (276 + j) D
        exact ⟨S7.upd.setCell (by simp; omega) _, S7.eB.other (by simp; omega) _, S7.wB.other (by simp; omega) _, by rw [← hD] at h8 ⊢; exact h8, S7.rB.other (by simp; omega) _⟩
       have Y8 := Y7.other (a := ⟨ob, 276 + j, none⟩) (by simp; omega) (.int .i64 D)
       have HS7 := Lib.hid S8
       have HY8 := Lib.hid Y8
       clear S7 Y7 U7 eb7 ed hH4 hD k4 k5 rc rf kc kf HU6 DC SB YB S8 Y8
       go_wp2_with fail
       have ybn : Hid (yb ≠ eb ∧ yb ≠ wb ∧ yb ≠ ob ∧ yb ≠ w.heap.size + 1 + 1 + 1 ∧ w.heap.size ≤ yb) := by have := hk1.out; have := hyb.out; exact ⟨by omega, by omega, by omega, by omega, by omega⟩
       go_loopw [97] (fun i wr => ∃ m : Nat, m ≤ j ∧ i = .int .i64 m ∧ Hid (StR c (H4 || orB (rowB V E j) m) eb wb ob E (elW V E j m 0) (outI O V E j m) w wr ∧ Blk wr yb 130 48 (stY V E j))) (fun i _ => j - (intOf i).toNat)
       case atStart =>
        refine ⟨0, by omega, rfl, ?_, HY8.out⟩
        rw [show (H4 || orB (rowB V E j) 0) = H4 from by simp [orB]]
        exact ⟨HS7.out.upd, HS7.out.eB, HS7.out.wB.congr fun i hi => by simp [elW], HS7.out.oB, HS7.out.rB⟩
       case round =>
        obtain ⟨m, hm, rfl, Q⟩ := hrel
        by_cases hmj : m < j
        ·have d3 : decide ((m : Int) < (j : Int)) = true := by simp; omega
         have hm0 : (0 : Int) ≤ (m : Int) := Int.natCast_nonneg _
         have hm1 : (m : Int) < 24 := by omega
         have rc := Q.out.1.upd.cellc HC.out
         have rf := (Q.out.1.upd.frozen hcb).trans HF.out
         have ga : ∀ i, i < 48 → wr.drew.cell? ⟨wb, m * 48 + i, none⟩ = some (.int .i64 (rowF 48 V m i)) := fun i hi => (Q.out.1.wB.cell (i := m * 48 + i) (by omega)).trans (by simp only [elW, rowF]; rw [if_neg (by omega)])
         have gb : ∀ i, i < 48 → wr.drew.cell? ⟨yb, 0 + i, none⟩ = some (.int .i64 (stY V E j i)) := fun i hi => by rw [Nat.zero_add]; exact Q.out.2.cell (i := i) hi
         have DC := Lib.hid (dot_any c _ 30 _ _ wb (m * 48) 48 yb 0 48 48 wr.drew rc rf (by decide) (by decide) (by decide) ga gb)
         clear ga gb
         go_upto_region 29 with fail
         go_region_with (first | (go_at_call 51; (refine DC.out.mono ?_); rintro e w8 ⟨rfl, hu8⟩; have kc := hu8.cellc rc; have kf := (hu8.frozen (World.block_lt_of_cell? _ _ rc)).trans rf; have HU8 := Lib.hid hu8; clear hu8) | (go_at_call 49; (refine (fdiv_any c _ _ D 30 _ kc kf).mono ?_); rintro e w9 ⟨rfl, hu9⟩))
         have k4 := hk1.out
         have k5 := hyb.out
         have U9 : Upd c (H4 || orB (rowB V E j) m || uB V E j m) wr w9 := by
          have := (Upd.after (Below.drew (Below.refl wr.heap.size wr)) HU8.out).trans hu9
          rw [← HD.out] at this
          rw [show (H4 || orB (rowB V E j) m || uB V E j m) = (H4 || orB (rowB V E j) m || dotH 30 (rowF 48 V m) (stY V E j) 48 || divH (dotV 30 (rowF 48 V m) (stY V E j) 48) (stD V E j) 30) from by simp [uB, Bool.or_assoc]]
          exact this
         have eu : divV (dotV 30 (rowF 48 V m) (stY V E j) 48) D 30 = stU V E j m := by rw [← HD.out]; rfl
         rw [eu]
         obtain ⟨u, hu⟩ : ∃ u, stU V E j m = u := ⟨_, rfl⟩
         rw [hu]
         have HU := Lib.hid hu
         have S9 := Lib.hid (Q.out.1.upd' hcb (by omega) (by omega) (by omega) U9)
         have Y9 := Lib.hid (Q.out.2.upd U9 (Q.out.2.flag rc))
         have O9 := S9.out.oB
         clear U9 eu hu hu9 HU8 kc kf rc rf Q DC k4 k5
         go_wp2_with (first | (refine wpList_load_row rfl 26 _ rfl ob rfl 26 _ (0, 0) _ O9 Tryz.underlying26 rfl (icov.trans (by rw [arrv_size])) ?_) | (go_at_call 90; (refine (set_any (outI O V E j m) m j u _ hmj hj24).mono ?_); rintro e w10 ⟨rfl, hb10⟩; have O10 := O9.below hb10) | (refine wpList_store_row rfl 26 _ _ rfl ob _ rfl rfl 26 _ O10 (icov.trans (by rw [arrv_size])) (by rw [arrv_size, arrv_size]) (oneCell_arrv _ _) ?_))
         have k4 := hk1.out
         have k6 := ybn.out
         have SS := S9.out.below hb10
         have S11 : StR c (H4 || orB (rowB V E j) m || uB V E j m) eb wb ob E (elW V E j m 0) (outI O V E j (m + 1)) w (w10.setRow ob (arrv 300 (Go.Proofs.YtgfklheepkgedaaGreat.upd (outI O V E j m) (pl m j) u))) :=
          ⟨SS.upd.then' (below_row (Below.refl _ _) (by omega) _), SS.eB.setRow_other _ (by omega), SS.wB.setRow_other _ (by omega), by have := SS.oB.setRow (Go.Proofs.YtgfklheepkgedaaGreat.upd (outI O V E j m) (pl m j) u); rw [← HU.out] at this ⊢; exact this, SS.rB.setRow_other _ (by omega)⟩
         have Y11 := (Y9.out.below hb10).setRow_other (k := ob) (arrv 300 (Go.Proofs.YtgfklheepkgedaaGreat.upd (outI O V E j m) (pl m j) u)) (by omega)
         generalize w10.setRow ob (arrv 300 (Go.Proofs.YtgfklheepkgedaaGreat.upd (outI O V E j m) (pl m j) u)) = w11 at *
         have HS11 := Lib.hid S11
         have HY11 := Lib.hid Y11
         clear S11 Y11 SS O10 O9 S9 Y9 hb10 k4 k6
         go_loopw [116] (fun i wr => ∃ k : Nat, k ≤ 48 ∧ i = .int .i64 k ∧ Hid (StR c (H4 || orB (rowB V E j) m || uB V E j m || orB (elB V u j m) k) eb wb ob E (elW V E j m k) (outI O V E j (m + 1)) w wr ∧ Blk wr yb 130 48 (stY V E j))) (fun i _ => 48 - (intOf i).toNat)
         case atStart =>
          refine ⟨0, by omega, rfl, ?_, HY11.out⟩
          rw [show (H4 || orB (rowB V E j) m || uB V E j m || orB (elB V u j m) 0) = (H4 || orB (rowB V E j) m || uB V E j m) from by simp [orB]]
          exact HS11.out
         case round =>
          obtain ⟨k, hk, rfl, Q⟩ := hrel
          by_cases hk48 : k < 48
          ·have d4 : decide ((k : Int) < 48) = true := by simp; omega
           have hk0 : (0 : Int) ≤ (k : Int) := Int.natCast_nonneg _
           have hk1' : (k : Int) < 48 := by omega
           have rc := Q.out.1.upd.cellc HC.out
           have rf := (Q.out.1.upd.frozen hcb).trans HF.out
           have x0 := Q.out.1.wB.cell (i := m * 48 + k) (by omega)
           have x1 := Q.out.1.wB.cell (i := j * 48 + k) (by omega)
           have hx0 : elW V E j m k (m * 48 + k) = V (m * 48 + k) := by simp only [elW]; rw [if_neg (by omega)]
           have hx1 : elW V E j m k (j * 48 + k) = V (j * 48 + k) := by simp only [elW]; rw [if_neg (by omega)]
           rw [hx0] at x0
           rw [hx1] at x1
           have n0 := ne_of_cells rc x0
           have n1 := ne_of_cells rc x1
           have MC := Lib.hid (fmul_any c (H4 || orB (rowB V E j) m || uB V E j m || orB (elB V u j m) k) u (V (j * 48 + k)) 30 wr.drew rc rf)
           clear hx0 hx1
           go_upto_region 34 with fail
           refine wp_region_M (fun w' => w'.cell? ⟨wb, m * 48 + k, none⟩ = some (.int .i64 (V (m * 48 + k))) ∧ w'.cell? ⟨wb, j * 48 + k, none⟩ = some (.int .i64 (V (j * 48 + k)))) 25 (by kernel_rfl) ?_ (fun hHeld => ?_)
           ·exact ⟨x0, x1⟩
           refine tk 0 ?_
           (try simp only [Act.put, nA, nB, nC])
           refine tk 1 ?_
           (try simp only [Act.put, nA, nB, nC])
           refine tk 2 ?_
           (try simp only [Act.put, nA, nB, nC])
           refine tk 3 ?_
           (try simp only [Act.put, nA, nB, nC])
           refine tk 4 ?_
           (try simp only [Act.put, nA, nB, nC])
           refine tk 5 ?_
           (try simp only [Act.put, nA, nB, nC])
           refine tk 6 ?_
           (try simp only [Act.put, nA, nB, nC])
           refine tk 7 ?_
           (try simp only [Act.put, nA, nB, nC])
           refine tk 8 ?_
           (try simp only [Act.put, nA, nB, nC])
           refine tk 9 ?_
           (try simp only [Act.put, nA, nB, nC])
           refine tk 10 ?_
           (try simp only [Act.put, nA, nB, nC])
           refine tk 11 ?_
           (try simp only [Act.put, nA, nB, nC])
           refine tk 12 ?_
           (try simp only [Act.put, nA, nB, nC])
           refine tk 13 ?_
           (try simp only [Act.put, nA, nB, nC])
           refine tk 14 ?_
           (try simp only [Act.put, nA, nB, nC])
           refine tk 15 ?_
           (try simp only [Act.put, nA, nB, nC])
           refine tk 16 ?_
           (try simp only [Act.put, nA, nB, nC])
           refine tk 17 ?_
           (try simp only [Act.put, nA, nB, nC])
           refine tk 18 ?_
           (try simp only [Act.put, nA, nB, nC])
           refine tk 19 ?_
           (try simp only [Act.put, nA, nB, nC])
           refine wpAnyM_takeW 22 (v := ?_) rfl (by kernel_rfl) (fun _ _ _ h => h) (Or.inl ⟨by rfl, ?_⟩) (.inr (by assumption)) ?_
           rotate_left
           ·(intro wx hSw; (try dsimp only at hSw); go_simp; (try with_reducible rfl))
           (try simp only [Act.put, nA, nB, nC])
           refine wpAnyM_takeW 23 (v := ?_) rfl (by kernel_rfl) (fun _ _ _ h => h) (Or.inl ⟨by rfl, ?_⟩) (.inr (by assumption)) ?_
           rotate_left
           ·(intro wx hSw; (try dsimp only at hSw); go_simp; (try with_reducible rfl))
           (try simp only [Act.put, nA, nB, nC])
           refine wpAnyM_oneS 20 rfl (by kernel_rfl) (fun K hK => ?_)
           go_simp
           (refine MC.out.mono ?_); rintro e w12 ⟨rfl, hu12⟩; have kp := keep2 (Upd.after (Below.drew (Below.refl _ _)) hu12) x0 x1 n0 n1; have kc := hu12.cellc rc; have kf := (hu12.frozen (World.block_lt_of_cell? _ _ rc)).trans rf; have HU12 := Lib.hid hu12; clear hu12
           (try dsimp only)
           (try simp only [Act.put, nA, nB, nC])
           clear hHeld
           refine hK.out _ _ ?_ (fun hHeld => ?_)
           ·exact kp
           clear hK K
           (try simp only [Act.put, nA, nB, nC])
           refine wpAnyM_oneS 21 rfl (by kernel_rfl) (fun K hK => ?_)
           go_simp
           (refine (sub_any c _ (V (m * 48 + k)) (mulV u (V (j * 48 + k)) 30) _ kc kf).mono ?_); rintro e w13 ⟨rfl, hw13⟩; have U13 : Upd c (H4 || orB (rowB V E j) m || uB V E j m || orB (elB V u j m) k || elB V u j m k) wr w13 := (by rw [← hw13]; rw [show (H4 || orB (rowB V E j) m || uB V E j m || orB (elB V u j m) k || elB V u j m k) = (H4 || orB (rowB V E j) m || uB V E j m || orB (elB V u j m) k || mulH u (V (j * 48 + k)) 30 || satH (V (m * 48 + k)) || satH (mulV u (V (j * 48 + k)) 30) || satH (satV (V (m * 48 + k)) - satV (mulV u (V (j * 48 + k)) 30))) from by simp [elB, subH, Bool.or_assoc]]; exact (Upd.after (Below.drew (Below.refl _ _)) HU12.out).trans (Upd.set c _ _)); have kp2 := keep2 U13 x0 x1 n0 n1; have kz := (Q.out.1.wB.upd U13 (Q.out.1.wB.flag rc)).free (m * 48 + k); have HU13 := Lib.hid U13; clear U13 hw13
           (try dsimp only)
           (try simp only [Act.put, nA, nB, nC])
           clear hHeld
           refine hK.out _ _ ?_ (fun hHeld => ?_)
           ·exact kp2
           clear hK K
           (try simp only [Act.put, nA, nB, nC])
           refine tk 24 ?_
           (try simp only [Act.put, nA, nB, nC])
           refine wpAnyM_one 25 rfl (by kernel_rfl) (fun K hK => ?_)
           go_simp
           refine hK.out _ _ (.inl (by kernel_rfl)) (fun _ => ?_)
           clear hK K
           (try simp only [Act.put, nA, nB, nC])
           refine wpAnyM_done (by kernel_rfl) ?_ _
           have k4 := hk1.out
           have k6 := ybn.out
           have S13 := Lib.hid (Q.out.1.upd' hcb (by omega) (by omega) (by omega) HU13.out)
           have Y13 := Lib.hid (Q.out.2.upd HU13.out (Q.out.2.flag rc))
           go_wp2_with fail
           go_roundw
           case rel =>
            refine ⟨k + 1, by omega, by go_num, ⟨?_, S13.out.eB.other (by simp; omega) _, ?_, S13.out.oB.other (by simp; omega) _, S13.out.rB.other (by simp; omega) _⟩, Y13.out.other (by simp; omega) _⟩
            ·rw [show (H4 || orB (rowB V E j) m || uB V E j m || orB (elB V u j m) (k + 1)) = (H4 || orB (rowB V E j) m || uB V E j m || orB (elB V u j m) k || elB V u j m k) from by simp [orB, Bool.or_assoc]]
             exact S13.out.upd.setCell (by simp; omega) _
            ·refine (S13.out.wB.set _ _).congr fun i hi => ?_
             simp only [Go.Proofs.YtgfklheepkgedaaGreat.upd, elW]
             by_cases h1 : i = m * 48 + k
             ·subst h1
              rw [if_pos rfl, if_pos (by omega), show (m * 48 + k) / 48 = m by omega, show (m * 48 + k) % 48 = k by omega, HU.out]
              rfl
             ·rw [if_neg h1]; split <;> split <;> first | rfl | omega
           case measure => simp [intOf]; omega
          ·have hk48' : k = 48 := by omega
           subst hk48'
           rw [show ((48 : Nat) : Int) = 48 from rfl]
           have HQ := Lib.hid Q.out
           clear Q hk hk48
           go_wp2_with fail
           go_roundw
           case rel =>
            refine ⟨m + 1, by omega, by go_num, ⟨?_, HQ.out.1.eB, ?_, HQ.out.1.oB, HQ.out.1.rB⟩, HQ.out.2⟩
            ·rw [show (H4 || orB (rowB V E j) (m + 1)) = (H4 || orB (rowB V E j) m || uB V E j m || orB (elB V u j m) 48) from by rw [← HU.out]; simp [orB, rowB, Bool.or_assoc]]
             exact HQ.out.1.upd
            ·exact HQ.out.1.wB.congr fun i hi => by simp only [elW]; split <;> split <;> first | rfl | omega
           case measure => simp [intOf]; omega
        ·have hmj' : m = j := by omega
         subst hmj'
         have HQ := Lib.hid Q.out
         clear Q hm hmj
         go_wp2_with fail
         go_roundw
         case rel =>
          have hn1 := HJN.out
          refine ⟨n + 1, by omega, by have := HJ.out; congr 1; omega, ?_⟩
          have eW : WN W E (n + 1) = elW V E m m 0 := by rw [← HV.out, hn1]; rfl
          have eO : ON W E (n + 1) = outI O V E m m := by rw [← HV.out, ← HO.out, hn1]; rfl
          have eH : (H2 || HN W E (n + 1)) = (H4 || orB (rowB V E m) m) := by
           rw [← HH4.out, ← HH3.out, ← HV.out, hn1]; simp [HN, stageH, Bool.or_assoc]
          rw [eW, eO, eH]
          exact HQ.out.1
         case measure => simp [intOf]
    ·have hn24 : n = 24 := by omega
     subst hn24
     rw [show (23 : Int) - ((24 : Nat) : Int) = -1 from rfl]
     have O1 := R.out.oB
     have R1 := R.out.rB
     have U1 := Lib.hid R.out.upd
     have k4 := hk1.out
     clear R hlt hn
     go_wp2_with (first | (refine wpList_load_row rfl 26 _ rfl ob rfl 26 _ (0, 0) _ O1 Tryz.underlying26 rfl (icov.trans (by rw [arrv_size])) ?_) | (refine wpList_store_row rfl 26 _ _ rfl (w.heap.size + 1 + 1 + 1) _ rfl rfl 26 _ R1 (icov.trans (by rw [arrv_size])) (by rw [arrv_size, arrv_size]) (oneCell_arrv _ _) ?_))
     refine bodyPost_ret (results_cell_row Tryz.results55 _ _ (w.heap.size + 1 + 1 + 1) 26 (arrv 300 (ON W E 24)) (0, 0) _ rfl (setRow_heap _ _ _ _ _ _ R1) Tryz.underlying26 rfl (icov.trans (by rw [arrv_size]))) rfl ⟨?_, ?_⟩
     ·rw [HSF.out]
     ·rw [HSH.out]
      exact U1.out.then' (below_row (Below.refl _ _) (by omega) _)
end Go.Proofs.YtgfklheepkgedaaGreat
