/- Contracts of the program's functions and plain laws, part 15: they hold for all arguments. -/
import Derived.Test.YtpbgglkopfjagaaQ14
/- awake of chapter 18. -/
namespace Go.Proofs.Ytpbgglkopfjagaa
open Go.RowKit
set_option maxRecDepth 100000
theorem aw24 : (#[.int .i64 1073741824, .int .i64 0, .int .i64 0, .int .i64 0, .int .i64 0, .int .i64 0, .int .i64 0, .int .i64 0, .int .i64 0, .int .i64 0, .int .i64 0, .int .i64 0, .int .i64 0, .int .i64 0, .int .i64 0, .int .i64 0, .int .i64 0, .int .i64 0, .int .i64 0, .int .i64 0, .int .i64 0, .int .i64 0, .int .i64 0, .int .i64 0] : Array Value) = arrv 24 awS := by kernel_rfl
theorem pkS_4 : pkS (fun _ => 4) 1 = pkF 4 := by
  funext i; unfold pkS pkF; rw [if_pos (by decide)]; unfold pkS Go.Proofs.Ytpbgglkopfjagaa.upd; rfl
/-- What is seen, built of a row and three numbers. -/
theorem ob_built (h : Nat → Int) (y r g : Int) : ((((Array.foldl (fun (cs : Array Value) (x : Value × Nat) => cs.setIfInBounds x.snd x.fst) #[.int .i64 0, .int .i64 0, .int .i64 0, .int .i64 0, .int .i64 0, .int .i64 0, .int .i64 0, .int .i64 0, .int .i64 0, .int .i64 0, .int .i64 0, .int .i64 0, .int .i64 0, .int .i64 0, .int .i64 0, .int .i64 0, .int .i64 0, .int .i64 0, .int .i64 0, .int .i64 0, .int .i64 0, .int .i64 0, .int .i64 0, .int .i64 0, .int .i64 0, .int .i64 0, .int .i64 0] (arrv 24 h).zipIdx 0 (arrv 24 h).size).setIfInBounds 24 (.int .i64 y)).setIfInBounds 25 (.int .i64 r)).setIfInBounds 26 (.int .i64 g)) = arrv 27 (obF h y r g) := by kernel_rfl
structure Aw18 (sb : Nat) (w w' : World) : Prop where
  below : Below w.heap.size w w'
  flg : Flg w' w.heap.size false
  s : Blk w' sb 23 24 awS
theorem Aw18.down {sb : Nat} {w w1 w2 : World} (a : Aw18 sb w w1) (u : Below w1.heap.size w1 w2) : Aw18 sb w w2 := ⟨Below.after a.below u, a.flg.below u, a.s.below u⟩
theorem Aw18.alloc {sb : Nat} {w w1 : World} (a : Aw18 sb w w1) (o : Obj) : Aw18 sb w (w1.alloc o) := a.down ((Below.refl _ _).alloc (Nat.le_refl _) o)
theorem res_new2 (w : World) (o o2 : Obj) (t : Bool) (y s : Int) : Res (((w.alloc o).alloc o2).alloc (.cells (res3 t y s) 36)) (w.heap.size + 1 + 1) t y s := by
  have h := Res.new ((w.alloc o).alloc o2) t y s
  simpa using h
theorem aw_t8 (w8 : World) : Blk (((w8.alloc (.cells #[.int .i64 0, .int .i64 0, .int .i64 0, .int .i64 0, .int .i64 0, .int .i64 0, .int .i64 0, .int .i64 0, .int .i64 0, .int .i64 0, .int .i64 0, .int .i64 0, .int .i64 0, .int .i64 0, .int .i64 0, .int .i64 0, .int .i64 0, .int .i64 0, .int .i64 0, .int .i64 0, .int .i64 0, .int .i64 0, .int .i64 0, .int .i64 0] 23)).alloc (.cells Try.zeroCells26 26)).alloc (.cells #[.bool false, .int .i64 0, .int .i64 0] 36)) w8.heap.size 23 24 (fun _ => 0) := by
  rw [zvec24]; exact ((Blk.new _ _ 24 _).alloc _).alloc _
theorem aw_q8 (w8 : World) (SN : Nat → Int) : Blk (Go.World.setRow (((w8.alloc (.cells #[.int .i64 0, .int .i64 0, .int .i64 0, .int .i64 0, .int .i64 0, .int .i64 0, .int .i64 0, .int .i64 0, .int .i64 0, .int .i64 0, .int .i64 0, .int .i64 0, .int .i64 0, .int .i64 0, .int .i64 0, .int .i64 0, .int .i64 0, .int .i64 0, .int .i64 0, .int .i64 0, .int .i64 0, .int .i64 0, .int .i64 0, .int .i64 0] 23)).alloc (.cells Try.zeroCells26 26)).alloc (.cells #[.bool false, .int .i64 0, .int .i64 0] 36)) w8.heap.size (arrv 24 SN)) (w8.heap.size + 1) 26 300 (fun _ => 0) := by
  rw [zcov]; exact ((Blk.new1 _ _ _ 300 _).alloc _).setRow_other _ (by omega)
theorem aw_r8 (w8 : World) (SN PN : Nat → Int) : Res (Go.World.setRow (Go.World.setRow (((w8.alloc (.cells #[.int .i64 0, .int .i64 0, .int .i64 0, .int .i64 0, .int .i64 0, .int .i64 0, .int .i64 0, .int .i64 0, .int .i64 0, .int .i64 0, .int .i64 0, .int .i64 0, .int .i64 0, .int .i64 0, .int .i64 0, .int .i64 0, .int .i64 0, .int .i64 0, .int .i64 0, .int .i64 0, .int .i64 0, .int .i64 0, .int .i64 0, .int .i64 0] 23)).alloc (.cells Try.zeroCells26 26)).alloc (.cells #[.bool false, .int .i64 0, .int .i64 0] 36)) w8.heap.size (arrv 24 SN)) (w8.heap.size + 1) (arrv 300 PN)) (w8.heap.size + 1 + 1) false 0 0 := by
  exact ((res_new2 w8 _ _ false 0 0).row _ (by omega)).row _ (by omega)
theorem aw_made {sb pb ob : Nat} {w w8 : World} (SN PN : Nat → Int) (YV VN : Int) (f : Flg w8 w.heap.size false) (b : Below w.heap.size w w8) (s : Blk w8 sb 23 24 awS) (p : Blk w8 pb 26 300 awC) (o : Blk w8 ob 41 27 awO1) (h : w.heap.size < sb ∧ sb < pb ∧ pb < ob) :
    AwK sb pb ob w8.heap.size SN PN YV VN w ((((((((w8.alloc (.cells #[.int .i64 0, .int .i64 0, .int .i64 0, .int .i64 0, .int .i64 0, .int .i64 0, .int .i64 0, .int .i64 0, .int .i64 0, .int .i64 0, .int .i64 0, .int .i64 0, .int .i64 0, .int .i64 0, .int .i64 0, .int .i64 0, .int .i64 0, .int .i64 0, .int .i64 0, .int .i64 0, .int .i64 0, .int .i64 0, .int .i64 0, .int .i64 0] 23)).alloc (.cells Try.zeroCells26 26)).alloc (.cells #[.bool false, .int .i64 0, .int .i64 0] 36)).setRow w8.heap.size (arrv 24 SN)).setRow (w8.heap.size + 1) (arrv 300 PN)).setCell ⟨w8.heap.size + 1 + 1, 0, none⟩ (.bool true)).setCell ⟨w8.heap.size + 1 + 1, 1, none⟩ (.int .i64 YV)).setCell ⟨w8.heap.size + 1 + 1, 2, none⟩ (.int .i64 VN)) := by
  have hs := b.size
  have R8 := aw_t8 w8
  have R9 := aw_q8 w8 SN
  have RA := (aw_r8 w8 SN PN).set3 true YV VN
  have HO := o.lt
  have HS := s.lt
  have HP := p.lt
  have B1 : Below w8.heap.size w8 (((w8.alloc (.cells #[.int .i64 0, .int .i64 0, .int .i64 0, .int .i64 0, .int .i64 0, .int .i64 0, .int .i64 0, .int .i64 0, .int .i64 0, .int .i64 0, .int .i64 0, .int .i64 0, .int .i64 0, .int .i64 0, .int .i64 0, .int .i64 0, .int .i64 0, .int .i64 0, .int .i64 0, .int .i64 0, .int .i64 0, .int .i64 0, .int .i64 0, .int .i64 0] 23)).alloc (.cells Try.zeroCells26 26)).alloc (.cells #[.bool false, .int .i64 0, .int .i64 0] 36)) := by (repeat (first | with_reducible exact Below.refl _ _ | with_reducible apply Below.drew | (with_reducible refine below_drewN ?_ _) | (with_reducible refine Below.alloc ?_ (by (try simp) <;> omega) _) | (with_reducible refine Below.setCell ?_ (by (try simp) <;> omega) _)))
  have B2 : Below w8.heap.size w8 ((((((((w8.alloc (.cells #[.int .i64 0, .int .i64 0, .int .i64 0, .int .i64 0, .int .i64 0, .int .i64 0, .int .i64 0, .int .i64 0, .int .i64 0, .int .i64 0, .int .i64 0, .int .i64 0, .int .i64 0, .int .i64 0, .int .i64 0, .int .i64 0, .int .i64 0, .int .i64 0, .int .i64 0, .int .i64 0, .int .i64 0, .int .i64 0, .int .i64 0, .int .i64 0] 23)).alloc (.cells Try.zeroCells26 26)).alloc (.cells #[.bool false, .int .i64 0, .int .i64 0] 36)).setRow w8.heap.size (arrv 24 SN)).setRow (w8.heap.size + 1) (arrv 300 PN)).setCell ⟨w8.heap.size + 1 + 1, 0, none⟩ (.bool true)).setCell ⟨w8.heap.size + 1 + 1, 1, none⟩ (.int .i64 YV)).setCell ⟨w8.heap.size + 1 + 1, 2, none⟩ (.int .i64 VN)) := ((((below_row (below_row B1 (Nat.le_refl _) _) (by omega) _).setCell (by simp; omega) _).setCell (by simp; omega) _).setCell (by simp; omega) _)
  exact ⟨Below.after b B2, f.below B2, s.below B2, p.below B2, o.below B2, ((((R8.setRow SN).setRow_other _ (by omega)).other (by simp; omega) _).other (by simp; omega) _).other (by simp; omega) _, (((R9.setRow PN).other (by simp) _).other (by simp) _).other (by simp) _, RA, h.1, h.2.1, h.2.2, HO⟩
set_option maxHeartbeats 8000000 in
theorem awake18_any (w : World) : Calls Try.prog 5 #[] w fun e w' => e = .returned (.bool true) ∧ Below w.heap.size w w' := by
  go_enter Try.func5, Try.ntmps5
  have F0 : Flg (w.alloc (.cells #[.bool false] 31)) w.heap.size false := Flg.new w false
  have B0 : Below w.heap.size w (w.alloc (.cells #[.bool false] 31)) := by (repeat (first | with_reducible exact Below.refl _ _ | with_reducible apply Below.drew | (with_reducible refine below_drewN ?_ _) | (with_reducible refine Below.alloc ?_ (by (try simp) <;> omega) _) | (with_reducible refine Below.setCell ?_ (by (try simp) <;> omega) _)))
  have F0 := Lib.hid F0
  have B0 := Lib.hid B0
  go_upto_region 2 with fail
  generalize w.alloc (.cells #[.bool false] 31) = W0 at *
  have R1 : Blk (W0.alloc (.cells #[.int .i64 0, .int .i64 0, .int .i64 0, .int .i64 0, .int .i64 0, .int .i64 0, .int .i64 0, .int .i64 0, .int .i64 0, .int .i64 0, .int .i64 0, .int .i64 0, .int .i64 0, .int .i64 0, .int .i64 0, .int .i64 0, .int .i64 0, .int .i64 0, .int .i64 0, .int .i64 0, .int .i64 0, .int .i64 0, .int .i64 0, .int .i64 0] 23)) W0.heap.size 23 24 (fun _ => 0) := by rw [zvec24]; exact Blk.new _ _ 24 _
  go_upto_region 3 with (rw [aw24]; (refine wpList_store_row rfl 23 _ _ rfl (W0.heap.size) _ rfl rfl 23 _ (R1) (ist.trans (by rw [arrv_size])) (by rw [arrv_size, arrv_size]) (oneCell_arrv _ _) ?_))
  have M1 : Below W0.heap.size W0 ((W0.alloc (.cells #[.int .i64 0, .int .i64 0, .int .i64 0, .int .i64 0, .int .i64 0, .int .i64 0, .int .i64 0, .int .i64 0, .int .i64 0, .int .i64 0, .int .i64 0, .int .i64 0, .int .i64 0, .int .i64 0, .int .i64 0, .int .i64 0, .int .i64 0, .int .i64 0, .int .i64 0, .int .i64 0, .int .i64 0, .int .i64 0, .int .i64 0, .int .i64 0] 23)).setRow W0.heap.size (arrv 24 awS)) := below_row (by (repeat (first | with_reducible exact Below.refl _ _ | with_reducible apply Below.drew | (with_reducible refine below_drewN ?_ _) | (with_reducible refine Below.alloc ?_ (by (try simp) <;> omega) _) | (with_reducible refine Below.setCell ?_ (by (try simp) <;> omega) _)))) (Nat.le_refl _) _
  have hs : w.heap.size < W0.heap.size := F0.out.lt
  have S1 := Lib.hid (R1.setRow awS)
  obtain ⟨sb, hsb⟩ : ∃ x, W0.heap.size = x := ⟨_, rfl⟩
  have A1 : Hid (Aw18 W0.heap.size w ((W0.alloc (.cells #[.int .i64 0, .int .i64 0, .int .i64 0, .int .i64 0, .int .i64 0, .int .i64 0, .int .i64 0, .int .i64 0, .int .i64 0, .int .i64 0, .int .i64 0, .int .i64 0, .int .i64 0, .int .i64 0, .int .i64 0, .int .i64 0, .int .i64 0, .int .i64 0, .int .i64 0, .int .i64 0, .int .i64 0, .int .i64 0, .int .i64 0, .int .i64 0] 23)).setRow W0.heap.size (arrv 24 awS))) := Lib.hid ⟨Below.after B0.out M1, F0.out.below M1, S1.out⟩
  generalize (W0.alloc (.cells #[.int .i64 0, .int .i64 0, .int .i64 0, .int .i64 0, .int .i64 0, .int .i64 0, .int .i64 0, .int .i64 0, .int .i64 0, .int .i64 0, .int .i64 0, .int .i64 0, .int .i64 0, .int .i64 0, .int .i64 0, .int .i64 0, .int .i64 0, .int .i64 0, .int .i64 0, .int .i64 0, .int .i64 0, .int .i64 0, .int .i64 0, .int .i64 0] 23)).setRow W0.heap.size (arrv 24 awS) = W1 at *
  rw [hsb] at A1 hs ⊢
  clear hsb R1 M1 S1 F0 B0
  have L1 : Slc (W1.alloc (.cells #[.int .i64 1, .int .i64 1, .int .i64 1, .int .i64 1, .int .i64 17592186044416] 2)) (some ⟨W1.heap.size, 0, none⟩) 5 awL := by
    intro i hi
    obtain rfl | rfl | rfl | rfl | rfl : i = 0 ∨ i = 1 ∨ i = 2 ∨ i = 3 ∨ i = 4 := by omega
    all_goals exact ⟨_, _, rfl, by simp [go_sem, awL]⟩
  have A2 := Lib.hid (A1.out.alloc (.cells #[.int .i64 1, .int .i64 1, .int .i64 1, .int .i64 1, .int .i64 17592186044416] 2))
  have N0 := Lib.hid (new_any ⟨w.heap.size, 0, none⟩ false _ 5 5 awL _ A2.out.flg.cell A2.out.flg.free L1)
  rw [awC_4.2, show newF 5 awL = awC from rfl] at N0
  clear L1
  go_upto_region 4 with (first | (go_at_call 16; (refine N0.out.mono ?_); rintro e w3 ⟨rfl, hu3⟩; replace hu3 : Upd ⟨w.heap.size, 0, none⟩ false _ w3 := hu3; have F3 := Lib.hid (A2.out.flg.hit hu3); have B3 := Lib.hid (own_upd A2.out.below (Nat.le_refl _) hu3); have S3 := Lib.hid (A2.out.s.upd hu3 (by show sb ≠ w.heap.size; omega)); have R3 : Blk (w3.alloc (.cells Try.zeroCells26 26)) w3.heap.size 26 300 (fun _ => 0) := (by rw [zcov]; exact Blk.new _ _ _ _); clear hu3) | (refine wpList_store_row rfl 26 _ _ rfl (w3.heap.size) _ rfl rfl 26 _ (R3) (icov.trans (by rw [arrv_size])) (by rw [arrv_size, arrv_size]) (oneCell_arrv _ _) ?_))
  have M3 : Below w3.heap.size w3 ((w3.alloc (.cells Try.zeroCells26 26)).setRow w3.heap.size (arrv 300 awC)) := below_row (by (repeat (first | with_reducible exact Below.refl _ _ | with_reducible apply Below.drew | (with_reducible refine below_drewN ?_ _) | (with_reducible refine Below.alloc ?_ (by (try simp) <;> omega) _) | (with_reducible refine Below.setCell ?_ (by (try simp) <;> omega) _)))) (Nat.le_refl _) _
  have hp0 : w.heap.size < w3.heap.size := F3.out.lt
  have hp1 : sb < w3.heap.size := S3.out.lt
  have P4 := Lib.hid (R3.setRow awC)
  have A4 := Lib.hid (Aw18.mk (Below.after B3.out M3) (F3.out.below M3) (S3.out.below M3))
  obtain ⟨pb, hpb⟩ : ∃ x, w3.heap.size = x := ⟨_, rfl⟩
  generalize (w3.alloc (.cells Try.zeroCells26 26)).setRow w3.heap.size (arrv 300 awC) = W4 at *
  rw [hpb] at P4 hp0 hp1 ⊢
  clear hpb M3 F3 B3 S3 R3 A2 N0 A1
  go_upto_region 5 with (first | (go_at_call 17; have L5 : Slc (W4.alloc (.cells #[.int .i64 4] 3)) (some ⟨W4.heap.size, 0, none⟩) 1 (fun _ => 4) := (by intro i hi; obtain rfl : i = 0 := (by omega); exact ⟨_, _, rfl, by simp [go_sem]⟩); (refine (pick_any _ 1 _ (fun _ => 4) _ L5 (by omega)).mono ?_); rintro e w5 ⟨rfl, hb5⟩; (rw [pkS_4]); have A5 := Lib.hid ((A4.out.alloc _).down hb5); have P5 := Lib.hid ((P4.out.alloc _).below hb5); have R5 : Blk (w5.alloc (.cells #[.int .i64 0, .int .i64 0, .int .i64 0, .int .i64 0, .int .i64 0, .int .i64 0, .int .i64 0, .int .i64 0, .int .i64 0, .int .i64 0, .int .i64 0, .int .i64 0, .int .i64 0, .int .i64 0, .int .i64 0, .int .i64 0, .int .i64 0, .int .i64 0, .int .i64 0, .int .i64 0, .int .i64 0, .int .i64 0, .int .i64 0, .int .i64 0, .int .i64 0, .int .i64 0, .int .i64 0] 41)) w5.heap.size 41 27 (fun _ => 0) := (by rw [zob]; exact Blk.new _ _ 27 _); clear hb5 L5) | (rw [ob_built, show obF (pkF 4) 1073741824 17592186044416 5 = awO1 from rfl]; (refine wpList_store_row rfl 41 _ _ rfl (w5.heap.size) _ rfl rfl 41 _ (R5) (iob.trans (by rw [arrv_size])) (by rw [arrv_size, arrv_size]) (oneCell_arrv _ _) ?_)))
  have M5 : Below w5.heap.size w5 ((w5.alloc (.cells #[.int .i64 0, .int .i64 0, .int .i64 0, .int .i64 0, .int .i64 0, .int .i64 0, .int .i64 0, .int .i64 0, .int .i64 0, .int .i64 0, .int .i64 0, .int .i64 0, .int .i64 0, .int .i64 0, .int .i64 0, .int .i64 0, .int .i64 0, .int .i64 0, .int .i64 0, .int .i64 0, .int .i64 0, .int .i64 0, .int .i64 0, .int .i64 0, .int .i64 0, .int .i64 0, .int .i64 0] 41)).setRow w5.heap.size (arrv 27 awO1)) := below_row (by (repeat (first | with_reducible exact Below.refl _ _ | with_reducible apply Below.drew | (with_reducible refine below_drewN ?_ _) | (with_reducible refine Below.alloc ?_ (by (try simp) <;> omega) _) | (with_reducible refine Below.setCell ?_ (by (try simp) <;> omega) _)))) (Nat.le_refl _) _
  have ho0 : pb < w5.heap.size := P5.out.lt
  have O6 := Lib.hid (R5.setRow awO1)
  have A6 := Lib.hid (A5.out.down M5)
  have P6 := Lib.hid (P5.out.below M5)
  obtain ⟨ob, hob⟩ : ∃ x, w5.heap.size = x := ⟨_, rfl⟩
  generalize (w5.alloc (.cells #[.int .i64 0, .int .i64 0, .int .i64 0, .int .i64 0, .int .i64 0, .int .i64 0, .int .i64 0, .int .i64 0, .int .i64 0, .int .i64 0, .int .i64 0, .int .i64 0, .int .i64 0, .int .i64 0, .int .i64 0, .int .i64 0, .int .i64 0, .int .i64 0, .int .i64 0, .int .i64 0, .int .i64 0, .int .i64 0, .int .i64 0, .int .i64 0, .int .i64 0, .int .i64 0, .int .i64 0] 41)).setRow w5.heap.size (arrv 27 awO1) = W6 at *
  rw [hob] at O6 ho0 ⊢
  clear hob M5 A5 P5 R5 A4 P4
  have S6 := A6.out.s
  have P7 := P6.out
  have O7 := O6.out
  have ON := Lib.hid (fuone_any ⟨w.heap.size, 0, none⟩ false awS awC awO1 W6 A6.out.flg.cell A6.out.flg.free (by decide))
  rw [aw_st1.2.2] at ON
  obtain ⟨SN, hSN⟩ : ∃ x, foSt awS awC awO1 = x := ⟨_, rfl⟩
  obtain ⟨PN, hPN⟩ : ∃ x, foPt awC awO1 = x := ⟨_, rfl⟩
  obtain ⟨VN, hVN⟩ : ∃ x, foS awC awO1 = x := ⟨_, rfl⟩
  rw [hSN, hPN, hVN, aw_one.2.2.1, aw_one.2.1] at ON
  have E5 := Lib.hid (And.intro (And.intro hSN hPN) hVN)
  clear hSN hPN hVN
  refine wp_region_lit ?_
  refine wpList_val (v := ?_) rfl ?_ ?_
  rotate_left
  · (go_simp; (try (first | with_reducible rfl | (constructor <;> with_reducible rfl))))
  (try simp only [Act.put, nA, nB, nC])
  refine wpList_val (v := ?_) rfl ?_ ?_
  rotate_left
  · refine Eq.trans (run_load_row 23 (.tmp 2) (by rfl) (sb) (by rfl) _ _ _ _ (S6) Try.underlying23 rfl (ist.trans (by rw [arrv_size]))) ?_; with_reducible rfl
  (try simp only [Act.put, nA, nB, nC])
  refine wpList_val (v := ?_) rfl ?_ ?_
  rotate_left
  · refine Eq.trans (run_load_row 26 (.tmp 3) (by rfl) (pb) (by rfl) _ _ _ _ (P7) Try.underlying26 rfl (icov.trans (by rw [arrv_size]))) ?_; with_reducible rfl
  (try simp only [Act.put, nA, nB, nC])
  refine wpList_val (v := ?_) rfl ?_ ?_
  rotate_left
  · refine Eq.trans (run_load_row 41 (.tmp 4) (by rfl) (ob) (by rfl) _ _ _ _ (O7) Try.underlying41 rfl (iob.trans (by rw [arrv_size]))) ?_; with_reducible rfl
  (try simp only [Act.put, nA, nB, nC])
  refine wpList_step (fun K hK => ?_)
  go_simp
  (refine ON.out.mono ?_); rintro e w8 ⟨rfl, hu8⟩; replace hu8 : Upd ⟨w.heap.size, 0, none⟩ false W6 w8 := hu8; have F8 := Lib.hid (A6.out.flg.hit hu8); have B8 := Lib.hid (own_upd A6.out.below (Nat.le_refl _) hu8); have S8 := Lib.hid (A6.out.s.upd hu8 (by show sb ≠ w.heap.size; omega)); have P8 := Lib.hid (P6.out.upd hu8 (by show pb ≠ w.heap.size; omega)); have O8 := Lib.hid (O6.out.upd hu8 (by show ob ≠ w.heap.size; omega)); have R8 := Lib.hid (aw_t8 w8); have R9 := Lib.hid (aw_q8 w8 SN); have RA := Lib.hid (aw_r8 w8 SN PN); (simp only [res3]); clear hu8
  (try dsimp only)
  (try simp only [Act.put, nA, nB, nC])
  refine hK _ _ ?_
  clear hK K
  refine wpList_val (v := ?_) rfl ?_ ?_
  rotate_left
  · (go_simp; (try (first | with_reducible rfl | (constructor <;> with_reducible rfl))))
  (try simp only [Act.put, nA, nB, nC])
  refine wpList_val (v := ?_) rfl ?_ ?_
  rotate_left
  · (go_simp; (try (first | with_reducible rfl | (constructor <;> with_reducible rfl))))
  (try simp only [Act.put, nA, nB, nC])
  refine wpList_val (v := ?_) rfl ?_ ?_
  rotate_left
  · (go_simp; (try (first | with_reducible rfl | (constructor <;> with_reducible rfl))))
  (try simp only [Act.put, nA, nB, nC])
  refine wpList_val (v := ?_) rfl ?_ ?_
  rotate_left
  · (go_simp; (try (first | with_reducible rfl | (constructor <;> with_reducible rfl))))
  (try simp only [Act.put, nA, nB, nC])
  refine wpList_act (v := ?_) (w' := ?_) rfl ?_ ?_
  rotate_left 2
  · (go_simp; (try (first | with_reducible rfl | (constructor <;> with_reducible rfl))))
  (try simp only [Act.put, nA, nB, nC])
  refine wpList_act (v := ?_) (w' := ?_) rfl ?_ ?_
  rotate_left 2
  · (go_simp; (try (first | with_reducible rfl | (constructor <;> with_reducible rfl))))
  (try simp only [Act.put, nA, nB, nC])
  refine wpList_act (v := ?_) (w' := ?_) rfl ?_ ?_
  rotate_left 2
  · (go_simp; (try (first | with_reducible rfl | (constructor <;> with_reducible rfl))))
  (try simp only [Act.put, nA, nB, nC])
  refine wpList_done (w' := ?_) rfl ?_ ?_
  rotate_left
  · refine Eq.trans (run_store_row 23 (.tmp 5) (.tmp 28) (by rfl) (w8.heap.size) (by rfl) (by rfl) (R8.out) (ist.trans rfl)) ?_; with_reducible rfl
  (try simp only [Act.put, nA, nB, nC])
  refine wpList_done (w' := ?_) rfl ?_ ?_
  rotate_left
  · refine Eq.trans (run_store_row 26 (.tmp 6) (.tmp 29) (by rfl) (w8.heap.size + 1) (by rfl) (by rfl) (R9.out) (icov.trans rfl)) ?_; with_reducible rfl
  (try simp only [Act.put, nA, nB, nC])
  refine wpList_done (w' := ?_) rfl ?_ ?_
  rotate_left
  · (obtain ⟨⟨v0, v1, v2⟩, y0, y1, y2⟩ := RA.out.c; go_simp; (try with_reducible rfl))
  (try simp only [Act.put, nA, nB, nC])
  refine wpList_nil ?_
  have K9 := Lib.hid (aw_made SN PN 1073741824 VN F8.out B8.out S8.out P8.out O8.out ⟨hs, hp1, ho0⟩)
  clear F8 B8 S8 P8 O8 R8 R9 RA S6 P7 O7 ON A6 P6 O6
  obtain ⟨tb, htb⟩ : ∃ x, w8.heap.size = x := ⟨_, rfl⟩
  generalize ((((((((w8.alloc (.cells #[.int .i64 0, .int .i64 0, .int .i64 0, .int .i64 0, .int .i64 0, .int .i64 0, .int .i64 0, .int .i64 0, .int .i64 0, .int .i64 0, .int .i64 0, .int .i64 0, .int .i64 0, .int .i64 0, .int .i64 0, .int .i64 0, .int .i64 0, .int .i64 0, .int .i64 0, .int .i64 0, .int .i64 0, .int .i64 0, .int .i64 0, .int .i64 0] 23)).alloc (.cells Try.zeroCells26 26)).alloc (.cells #[.bool false, .int .i64 0, .int .i64 0] 36)).setRow w8.heap.size (arrv 24 SN)).setRow (w8.heap.size + 1) (arrv 300 PN)).setCell ⟨w8.heap.size + 1 + 1, 0, none⟩ (.bool true)).setCell ⟨w8.heap.size + 1 + 1, 1, none⟩ (.int .i64 1073741824)).setCell ⟨w8.heap.size + 1 + 1, 2, none⟩ (.int .i64 VN)) = W9 at *
  rw [htb] at K9 ⊢
  clear htb hs hp0 hp1 ho0
  have AL := Lib.hid (awk_all w.heap.size)
  have KT := Lib.hid aw_all
  obtain ⟨S2, hS2⟩ : ∃ x, (alN awS awC awO 2).1 = x := ⟨_, rfl⟩
  obtain ⟨P2, hP2⟩ : ∃ x, (alN awS awC awO 2).2 = x := ⟨_, rfl⟩
  obtain ⟨TN, hTN⟩ : ∃ x, alT awS awC awO = x := ⟨_, rfl⟩
  obtain ⟨YN, hYN⟩ : ∃ x, alY awO = x := ⟨_, rfl⟩
  obtain ⟨UN, hUN⟩ : ∃ x, alV awS awC awO = x := ⟨_, rfl⟩
  simp only [hS2, hP2, hTN, hYN, hUN] at AL
  rw [hS2, hTN] at KT
  clear hS2 hP2 hTN hYN hUN
  have HS := Lib.hid K9.out.drew
  clear K9
  go_upto_region 6 with fail
  go_cut [8, 9, 10] from 31 to 43 (fun s8 s9 s10 wx => ∃ b8 b9 p cp, s8 = .pointer (some ⟨b8, 0, none⟩) ∧ s9 = .pointer (some ⟨b9, 0, none⟩) ∧ s10 = .slice p 2 cp ∧ Hid (AwK sb pb ob tb SN PN 1073741824 VN w wx ∧ Blk wx b8 23 24 S2 ∧ SlcR wx p 2 TN YN UN))
  case first =>
    refine wp_region_M (fun w' => Blk w' sb 23 24 awS ∧ Blk w' pb 26 300 awC ∧ Blk w' ob 41 27 awO1) 17 (by kernel_rfl) ?_ (fun hHeld => ?_)
    · exact ⟨HS.out.s, HS.out.p, HS.out.o⟩
    obtain ⟨wx, hwx⟩ : ∃ x, W9.drew = x := ⟨_, rfl⟩; rw [hwx] at HS hHeld ⊢; clear hwx
    clear hHeld
    revert HS
    revert wx
    refine share (T := ?_) (fun SH13 => ?_) ?sp13
    rotate_left
    refine share (T := ?_) (fun SH12 => ?_) ?sp12
    rotate_left
    refine share (T := ?_) (fun SH11 => ?_) ?sp11
    rotate_left
    refine share (T := ?_) (fun SH10 => ?_) ?sp10
    rotate_left
    refine share (T := ?_) (fun SH9 => ?_) ?sp9
    rotate_left
    refine share (T := ?_) (fun SH8 => ?_) ?sp8
    rotate_left
    refine share (T := ?_) (fun SH7 => ?_) ?sp7
    rotate_left
    refine share (T := ?_) (fun SH6 => ?_) ?sp6
    rotate_left
    refine share (T := ?_) (fun SH5 => ?_) ?sp5
    rotate_left
    refine share (T := ?_) (fun SH4 => ?_) ?sp4
    rotate_left
    refine share (T := ?_) (fun SH3 => ?_) ?sp3
    rotate_left
    refine share (T := ?_) (fun SH2 => ?_) ?sp2
    rotate_left
    refine share (T := ?_) (fun SH1 => ?_) ?sp1
    rotate_left
    · intro wx  HS
      have hHeld : (((fun w' => Blk w' sb 23 24 awS ∧ Blk w' pb 26 300 awC ∧ Blk w' ob 41 27 awO1)) wx) := by exact ⟨HS.out.s, HS.out.p, HS.out.o⟩
      refine wpAnyM_take 0 (v := ?_) rfl (by kernel_rfl) (fun _ _ _ h => h) (Or.inl ⟨by rfl, ?_⟩) (by assumption) ?_
      rotate_left
      · (intro wz hSw; (try dsimp only at hSw); go_simp; (try with_reducible rfl))
      (try simp only [Act.put, nA, nB, nC])
      refine wpAnyM_take 1 (v := ?_) rfl (by kernel_rfl) (fun _ _ _ h => h) (Or.inl ⟨by rfl, ?_⟩) (by assumption) ?_
      rotate_left
      · (intro wz hSw; refine Eq.trans (run_load_row 23 (.tmp 2) (by rfl) (sb) (by rfl) _ _ _ _ (hSw.1) Try.underlying23 rfl (ist.trans (by rw [arrv_size]))) ?_; with_reducible rfl)
      (try simp only [Act.put, nA, nB, nC])
      refine wpAnyM_take 2 (v := ?_) rfl (by kernel_rfl) (fun _ _ _ h => h) (Or.inl ⟨by rfl, ?_⟩) (by assumption) ?_
      rotate_left
      · (intro wz hSw; refine Eq.trans (run_load_row 26 (.tmp 3) (by rfl) (pb) (by rfl) _ _ _ _ (hSw.2.1) Try.underlying26 rfl (icov.trans (by rw [arrv_size]))) ?_; with_reducible rfl)
      (try simp only [Act.put, nA, nB, nC])
      refine wpAnyM_take 3 (v := ?_) rfl (by kernel_rfl) (fun _ _ _ h => h) (Or.inl ⟨by rfl, ?_⟩) (by assumption) ?_
      rotate_left
      · (intro wz hSw; refine Eq.trans (run_load_row 41 (.tmp 4) (by rfl) (ob) (by rfl) _ _ _ _ (hSw.2.2) Try.underlying41 rfl (iob.trans (by rw [arrv_size]))) ?_; with_reducible rfl)
      (try simp only [Act.put, nA, nB, nC])
      clear hHeld
      refine wpAnyM_threeS 4 13 14 rfl rfl rfl (by kernel_rfl) (fun K hK => ?_) (fun K hK => ?_) (fun K hK => ?_)
      · go_simp; obtain ⟨b4, hb⟩ : ∃ x, wx.heap.size = x := ⟨_, rfl⟩; have HL := Lib.hid (awk_slc HS.out 4 b4 hb); have hBB := (Below.refl wx.heap.size wx).alloc (Nat.le_refl _) (.cells #[.int .i64 4] 3); (try (have HA2 := Lib.hid (And.intro (HA.out.1.below hBB) HA.out.2); clear HA; have HA := HA2; clear HA2)); (try (have HR2 := Lib.hid (And.intro (HR.out.1.below hBB) HR.out.2); clear HR; have HR := HR2; clear HR2)); have HS2 := Lib.hid (HS.out.down hBB); clear HS; have HS := HS2; clear HS2 hBB; (rw [hb]); clear hb; generalize wx.alloc (.cells #[.int .i64 4] 3) = wn at *
        refine hK.out _ _ ?_ (fun hHeld => ?_)
        · exact ⟨HS.out.s, HS.out.p, HS.out.o⟩
        clear hK K
        (try simp only [Act.put, nA, nB, nC])
        clear hHeld
        revert HL
        revert HS
        revert b4
        revert wn
        intro wx b4 HS HL
        refine wpAnyM_threeS 5 13 14 rfl rfl rfl (by kernel_rfl) (fun K hK => ?_) (fun K hK => ?_) (fun K hK => ?_)
        · go_simp
          (refine (pick_any _ 1 _ (fun _ => 4) _ HL.out (by omega)).mono ?_); rintro e wn ⟨rfl, hb6⟩; (rw [pkS_4]); have HS2 := Lib.hid (HS.out.down hb6); clear HS; have HS := HS2; clear HS2 HL; (try (have HA2 := Lib.hid (And.intro (HA.out.1.below hb6) HA.out.2); clear HA; have HA := HA2; clear HA2)); (try (have HR2 := Lib.hid (And.intro (HR.out.1.below hb6) HR.out.2); clear HR; have HR := HR2; clear HR2)); clear hb6
          (try dsimp only)
          (try simp only [Act.put, nA, nB, nC])
          refine hK.out _ _ ?_ (fun hHeld => ?_)
          · exact ⟨HS.out.s, HS.out.p, HS.out.o⟩
          clear hK K
          (try simp only [Act.put, nA, nB, nC])
          refine wpAnyM_take 6 (v := ?_) rfl (by kernel_rfl) (fun _ _ _ h => h) (Or.inl ⟨by rfl, ?_⟩) (by assumption) ?_
          rotate_left
          · (intro wz hSw; (try dsimp only at hSw); go_simp; rw [ob_built, show obF (pkF 4) 1125899906842624 1 1 = awO2 from rfl]; (try with_reducible rfl))
          (try simp only [Act.put, nA, nB, nC])
          clear hHeld
          revert HS
          revert b4
          revert wn
          intro wx b4 HS
          refine wpAnyM_threeS 7 13 14 rfl rfl rfl (by kernel_rfl) (fun K hK => ?_) (fun K hK => ?_) (fun K hK => ?_)
          · refine if_pos_of (by rfl) (wp_bsl27 (.tmp 35) (.tmp 38) rfl rfl rfl ?_); (rw [awO_two]); obtain ⟨b7, hb⟩ : ∃ x, wx.heap.size = x := ⟨_, rfl⟩; have HL := Lib.hid (awk_obs HS.out awO b7 hb); have hBB := (Below.refl wx.heap.size wx).alloc (Nat.le_refl _) (.cells (arrv 54 awO) 41); (try (have HA2 := Lib.hid (And.intro (HA.out.1.below hBB) HA.out.2); clear HA; have HA := HA2; clear HA2)); (try (have HR2 := Lib.hid (And.intro (HR.out.1.below hBB) HR.out.2); clear HR; have HR := HR2; clear HR2)); have HS2 := Lib.hid (HS.out.down hBB); clear HS; have HS := HS2; clear HS2 hBB; (rw [hb]); clear hb; generalize wx.alloc (.cells (arrv 54 awO) 41) = wn at *
            refine hK.out _ _ ?_ (fun hHeld => ?_)
            · exact ⟨HS.out.s, HS.out.p, HS.out.o⟩
            clear hK K
            (try simp only [Act.put, nA, nB, nC])
            clear hHeld
            revert HL
            revert HS
            revert b7
            revert b4
            revert wn
            intro wx b4 b7 HS HL
            refine wpAnyM_threeS 8 13 14 rfl rfl rfl (by kernel_rfl) (fun K hK => ?_) (fun K hK => ?_) (fun K hK => ?_)
            · go_simp
              (refine (AL.out _ HS.out.flg.cell HS.out.flg.free _ HL.out).mono ?_); rintro e wn ⟨v, rfl, hu7, hv7⟩; (try (have N8 := Lib.hid (ownr_a HA.out.1 hv7 (rfl : (0 : Nat) = 0)))); (try (have N9 := Lib.hid (ownr_a HR.out.1 hv7 (rfl : (0 : Nat) = 0)))); obtain ⟨bv, hbv⟩ : ∃ x, wx.heap.size = x := ⟨_, rfl⟩; (rw [hbv] at hv7); clear hbv; have HV := Lib.hid hv7; (try (have HA2 := Lib.hid (And.intro (HA.out.1.upd hu7 (by have := HA.out.2; have := HS.out.ord; simp; omega)) HA.out.2); clear HA; have HA := HA2; clear HA2)); (try (have HR2 := Lib.hid (And.intro (HR.out.1.upd hu7 (by have := HR.out.2; have := HS.out.ord; simp; omega)) HR.out.2); clear HR; have HR := HR2; clear HR2)); have HS2 := Lib.hid (HS.out.upd hu7); clear HS; have HS := HS2; clear HS2 HL; clear hu7 hv7
              (try dsimp only)
              (try simp only [Act.put, nA, nB, nC])
              refine hK.out _ _ ?_ (fun hHeld => ?_)
              · exact ⟨HS.out.s, HS.out.p, HS.out.o⟩
              clear hK K
              (try simp only [Act.put, nA, nB, nC])
              refine wpAnyM_take 9 (v := ?_) rfl (by kernel_rfl) (fun _ _ _ h => h) (Or.inl ⟨by rfl, ?_⟩) (by assumption) ?_
              rotate_left
              · (intro wz hSw; (try dsimp only at hSw); go_simp; (try with_reducible rfl))
              (try simp only [Act.put, nA, nB, nC])
              refine wpAnyM_take 10 (v := ?_) rfl (by kernel_rfl) (fun _ _ _ h => h) (Or.inl ⟨by rfl, ?_⟩) (by assumption) ?_
              rotate_left
              · (intro wz hSw; (try dsimp only at hSw); go_simp; (try with_reducible rfl))
              (try simp only [Act.put, nA, nB, nC])
              refine wpAnyM_take 11 (v := ?_) rfl (by kernel_rfl) (fun _ _ _ h => h) (Or.inl ⟨by rfl, ?_⟩) (by assumption) ?_
              rotate_left
              · (intro wz hSw; (try dsimp only at hSw); go_simp; (try with_reducible rfl))
              (try simp only [Act.put, nA, nB, nC])
              refine wpAnyM_take 12 (v := ?_) rfl (by kernel_rfl) (fun _ _ _ h => h) (Or.inl ⟨by rfl, ?_⟩) (by assumption) ?_
              rotate_left
              · (intro wz hSw; (try dsimp only at hSw); go_simp; (try with_reducible rfl))
              (try simp only [Act.put, nA, nB, nC])
              clear hHeld
              revert HV
              revert HS
              revert v
              revert bv
              revert b7
              revert b4
              revert wn
              intro wx b4 b7 bv v HS HV
              refine wpAnyM_twoS 13 14 rfl rfl (by kernel_rfl) (fun K hK => ?_) (fun K hK => ?_)
              · go_simp; obtain ⟨b13, hb⟩ : ∃ x, wx.heap.size = x := ⟨_, rfl⟩; have HA := Lib.hid (awk_st HS.out b13 hb); (try (have N8 := Lib.hid (ownr_n HV.out hb))); have hBB := (Below.refl wx.heap.size wx).alloc (Nat.le_refl _) (.cells #[.int .i64 0, .int .i64 0, .int .i64 0, .int .i64 0, .int .i64 0, .int .i64 0, .int .i64 0, .int .i64 0, .int .i64 0, .int .i64 0, .int .i64 0, .int .i64 0, .int .i64 0, .int .i64 0, .int .i64 0, .int .i64 0, .int .i64 0, .int .i64 0, .int .i64 0, .int .i64 0, .int .i64 0, .int .i64 0, .int .i64 0, .int .i64 0] 23); (try (have HV2 := Lib.hid (HV.out.alloc (.cells #[.int .i64 0, .int .i64 0, .int .i64 0, .int .i64 0, .int .i64 0, .int .i64 0, .int .i64 0, .int .i64 0, .int .i64 0, .int .i64 0, .int .i64 0, .int .i64 0, .int .i64 0, .int .i64 0, .int .i64 0, .int .i64 0, .int .i64 0, .int .i64 0, .int .i64 0, .int .i64 0, .int .i64 0, .int .i64 0, .int .i64 0, .int .i64 0] 23)); clear HV; have HV := HV2; clear HV2)); (try (have HR2 := Lib.hid (And.intro (HR.out.1.below hBB) HR.out.2); clear HR; have HR := HR2; clear HR2)); (try (have HL2 := Lib.hid (HL.out.below hBB); clear HL; have HL := HL2; clear HL2)); have HS2 := Lib.hid (HS.out.down hBB); clear HS; have HS := HS2; clear HS2 hBB; (rw [hb]); clear hb; generalize wx.alloc (.cells #[.int .i64 0, .int .i64 0, .int .i64 0, .int .i64 0, .int .i64 0, .int .i64 0, .int .i64 0, .int .i64 0, .int .i64 0, .int .i64 0, .int .i64 0, .int .i64 0, .int .i64 0, .int .i64 0, .int .i64 0, .int .i64 0, .int .i64 0, .int .i64 0, .int .i64 0, .int .i64 0, .int .i64 0, .int .i64 0, .int .i64 0, .int .i64 0] 23) = wn at *
                refine hK.out _ _ ?_ (fun hHeld => ?_)
                · exact ⟨HS.out.s, HS.out.p, HS.out.o⟩
                clear hK K
                (try simp only [Act.put, nA, nB, nC])
                clear hHeld
                revert N8
                revert HA
                revert HV
                revert HS
                revert b13
                revert v
                revert bv
                revert b7
                revert b4
                revert wn
                exact SH10.out
              · go_simp; obtain ⟨b14, hb⟩ : ∃ x, wx.heap.size = x := ⟨_, rfl⟩; have HR := Lib.hid (awk_cov HS.out b14 hb); (try (have N9 := Lib.hid (ownr_n HV.out hb))); have hBB := (Below.refl wx.heap.size wx).alloc (Nat.le_refl _) (.cells Try.zeroCells26 26); (try (have HV2 := Lib.hid (HV.out.alloc (.cells Try.zeroCells26 26)); clear HV; have HV := HV2; clear HV2)); (try (have HA2 := Lib.hid (And.intro (HA.out.1.below hBB) HA.out.2); clear HA; have HA := HA2; clear HA2)); (try (have HL2 := Lib.hid (HL.out.below hBB); clear HL; have HL := HL2; clear HL2)); have HS2 := Lib.hid (HS.out.down hBB); clear HS; have HS := HS2; clear HS2 hBB; (rw [hb]); clear hb; generalize wx.alloc (.cells Try.zeroCells26 26) = wn at *
                refine hK.out _ _ ?_ (fun hHeld => ?_)
                · exact ⟨HS.out.s, HS.out.p, HS.out.o⟩
                clear hK K
                (try simp only [Act.put, nA, nB, nC])
                clear hHeld
                revert N9
                revert HR
                revert HV
                revert HS
                revert b14
                revert v
                revert bv
                revert b7
                revert b4
                revert wn
                exact SH11.out
            · go_simp; obtain ⟨b13, hb⟩ : ∃ x, wx.heap.size = x := ⟨_, rfl⟩; have HA := Lib.hid (awk_st HS.out b13 hb); (try (have N8 := Lib.hid (ownr_n HV.out hb))); have hBB := (Below.refl wx.heap.size wx).alloc (Nat.le_refl _) (.cells #[.int .i64 0, .int .i64 0, .int .i64 0, .int .i64 0, .int .i64 0, .int .i64 0, .int .i64 0, .int .i64 0, .int .i64 0, .int .i64 0, .int .i64 0, .int .i64 0, .int .i64 0, .int .i64 0, .int .i64 0, .int .i64 0, .int .i64 0, .int .i64 0, .int .i64 0, .int .i64 0, .int .i64 0, .int .i64 0, .int .i64 0, .int .i64 0] 23); (try (have HV2 := Lib.hid (HV.out.alloc (.cells #[.int .i64 0, .int .i64 0, .int .i64 0, .int .i64 0, .int .i64 0, .int .i64 0, .int .i64 0, .int .i64 0, .int .i64 0, .int .i64 0, .int .i64 0, .int .i64 0, .int .i64 0, .int .i64 0, .int .i64 0, .int .i64 0, .int .i64 0, .int .i64 0, .int .i64 0, .int .i64 0, .int .i64 0, .int .i64 0, .int .i64 0, .int .i64 0] 23)); clear HV; have HV := HV2; clear HV2)); (try (have HR2 := Lib.hid (And.intro (HR.out.1.below hBB) HR.out.2); clear HR; have HR := HR2; clear HR2)); (try (have HL2 := Lib.hid (HL.out.below hBB); clear HL; have HL := HL2; clear HL2)); have HS2 := Lib.hid (HS.out.down hBB); clear HS; have HS := HS2; clear HS2 hBB; (rw [hb]); clear hb; generalize wx.alloc (.cells #[.int .i64 0, .int .i64 0, .int .i64 0, .int .i64 0, .int .i64 0, .int .i64 0, .int .i64 0, .int .i64 0, .int .i64 0, .int .i64 0, .int .i64 0, .int .i64 0, .int .i64 0, .int .i64 0, .int .i64 0, .int .i64 0, .int .i64 0, .int .i64 0, .int .i64 0, .int .i64 0, .int .i64 0, .int .i64 0, .int .i64 0, .int .i64 0] 23) = wn at *
              refine hK.out _ _ ?_ (fun hHeld => ?_)
              · exact ⟨HS.out.s, HS.out.p, HS.out.o⟩
              clear hK K
              (try simp only [Act.put, nA, nB, nC])
              clear hHeld
              revert HA
              revert HL
              revert HS
              revert b13
              revert b7
              revert b4
              revert wn
              exact SH7.out
            · go_simp; obtain ⟨b14, hb⟩ : ∃ x, wx.heap.size = x := ⟨_, rfl⟩; have HR := Lib.hid (awk_cov HS.out b14 hb); (try (have N9 := Lib.hid (ownr_n HV.out hb))); have hBB := (Below.refl wx.heap.size wx).alloc (Nat.le_refl _) (.cells Try.zeroCells26 26); (try (have HV2 := Lib.hid (HV.out.alloc (.cells Try.zeroCells26 26)); clear HV; have HV := HV2; clear HV2)); (try (have HA2 := Lib.hid (And.intro (HA.out.1.below hBB) HA.out.2); clear HA; have HA := HA2; clear HA2)); (try (have HL2 := Lib.hid (HL.out.below hBB); clear HL; have HL := HL2; clear HL2)); have HS2 := Lib.hid (HS.out.down hBB); clear HS; have HS := HS2; clear HS2 hBB; (rw [hb]); clear hb; generalize wx.alloc (.cells Try.zeroCells26 26) = wn at *
              refine hK.out _ _ ?_ (fun hHeld => ?_)
              · exact ⟨HS.out.s, HS.out.p, HS.out.o⟩
              clear hK K
              (try simp only [Act.put, nA, nB, nC])
              clear hHeld
              revert HR
              revert HL
              revert HS
              revert b14
              revert b7
              revert b4
              revert wn
              exact SH8.out
          · go_simp; obtain ⟨b13, hb⟩ : ∃ x, wx.heap.size = x := ⟨_, rfl⟩; have HA := Lib.hid (awk_st HS.out b13 hb); (try (have N8 := Lib.hid (ownr_n HV.out hb))); have hBB := (Below.refl wx.heap.size wx).alloc (Nat.le_refl _) (.cells #[.int .i64 0, .int .i64 0, .int .i64 0, .int .i64 0, .int .i64 0, .int .i64 0, .int .i64 0, .int .i64 0, .int .i64 0, .int .i64 0, .int .i64 0, .int .i64 0, .int .i64 0, .int .i64 0, .int .i64 0, .int .i64 0, .int .i64 0, .int .i64 0, .int .i64 0, .int .i64 0, .int .i64 0, .int .i64 0, .int .i64 0, .int .i64 0] 23); (try (have HV2 := Lib.hid (HV.out.alloc (.cells #[.int .i64 0, .int .i64 0, .int .i64 0, .int .i64 0, .int .i64 0, .int .i64 0, .int .i64 0, .int .i64 0, .int .i64 0, .int .i64 0, .int .i64 0, .int .i64 0, .int .i64 0, .int .i64 0, .int .i64 0, .int .i64 0, .int .i64 0, .int .i64 0, .int .i64 0, .int .i64 0, .int .i64 0, .int .i64 0, .int .i64 0, .int .i64 0] 23)); clear HV; have HV := HV2; clear HV2)); (try (have HR2 := Lib.hid (And.intro (HR.out.1.below hBB) HR.out.2); clear HR; have HR := HR2; clear HR2)); (try (have HL2 := Lib.hid (HL.out.below hBB); clear HL; have HL := HL2; clear HL2)); have HS2 := Lib.hid (HS.out.down hBB); clear HS; have HS := HS2; clear HS2 hBB; (rw [hb]); clear hb; generalize wx.alloc (.cells #[.int .i64 0, .int .i64 0, .int .i64 0, .int .i64 0, .int .i64 0, .int .i64 0, .int .i64 0, .int .i64 0, .int .i64 0, .int .i64 0, .int .i64 0, .int .i64 0, .int .i64 0, .int .i64 0, .int .i64 0, .int .i64 0, .int .i64 0, .int .i64 0, .int .i64 0, .int .i64 0, .int .i64 0, .int .i64 0, .int .i64 0, .int .i64 0] 23) = wn at *
            refine hK.out _ _ ?_ (fun hHeld => ?_)
            · exact ⟨HS.out.s, HS.out.p, HS.out.o⟩
            clear hK K
            (try simp only [Act.put, nA, nB, nC])
            clear hHeld
            revert HA
            revert HS
            revert b13
            revert b4
            revert wn
            exact SH4.out
          · go_simp; obtain ⟨b14, hb⟩ : ∃ x, wx.heap.size = x := ⟨_, rfl⟩; have HR := Lib.hid (awk_cov HS.out b14 hb); (try (have N9 := Lib.hid (ownr_n HV.out hb))); have hBB := (Below.refl wx.heap.size wx).alloc (Nat.le_refl _) (.cells Try.zeroCells26 26); (try (have HV2 := Lib.hid (HV.out.alloc (.cells Try.zeroCells26 26)); clear HV; have HV := HV2; clear HV2)); (try (have HA2 := Lib.hid (And.intro (HA.out.1.below hBB) HA.out.2); clear HA; have HA := HA2; clear HA2)); (try (have HL2 := Lib.hid (HL.out.below hBB); clear HL; have HL := HL2; clear HL2)); have HS2 := Lib.hid (HS.out.down hBB); clear HS; have HS := HS2; clear HS2 hBB; (rw [hb]); clear hb; generalize wx.alloc (.cells Try.zeroCells26 26) = wn at *
            refine hK.out _ _ ?_ (fun hHeld => ?_)
            · exact ⟨HS.out.s, HS.out.p, HS.out.o⟩
            clear hK K
            (try simp only [Act.put, nA, nB, nC])
            clear hHeld
            revert HR
            revert HS
            revert b14
            revert b4
            revert wn
            exact SH5.out
        · go_simp; obtain ⟨b13, hb⟩ : ∃ x, wx.heap.size = x := ⟨_, rfl⟩; have HA := Lib.hid (awk_st HS.out b13 hb); (try (have N8 := Lib.hid (ownr_n HV.out hb))); have hBB := (Below.refl wx.heap.size wx).alloc (Nat.le_refl _) (.cells #[.int .i64 0, .int .i64 0, .int .i64 0, .int .i64 0, .int .i64 0, .int .i64 0, .int .i64 0, .int .i64 0, .int .i64 0, .int .i64 0, .int .i64 0, .int .i64 0, .int .i64 0, .int .i64 0, .int .i64 0, .int .i64 0, .int .i64 0, .int .i64 0, .int .i64 0, .int .i64 0, .int .i64 0, .int .i64 0, .int .i64 0, .int .i64 0] 23); (try (have HV2 := Lib.hid (HV.out.alloc (.cells #[.int .i64 0, .int .i64 0, .int .i64 0, .int .i64 0, .int .i64 0, .int .i64 0, .int .i64 0, .int .i64 0, .int .i64 0, .int .i64 0, .int .i64 0, .int .i64 0, .int .i64 0, .int .i64 0, .int .i64 0, .int .i64 0, .int .i64 0, .int .i64 0, .int .i64 0, .int .i64 0, .int .i64 0, .int .i64 0, .int .i64 0, .int .i64 0] 23)); clear HV; have HV := HV2; clear HV2)); (try (have HR2 := Lib.hid (And.intro (HR.out.1.below hBB) HR.out.2); clear HR; have HR := HR2; clear HR2)); (try (have HL2 := Lib.hid (HL.out.below hBB); clear HL; have HL := HL2; clear HL2)); have HS2 := Lib.hid (HS.out.down hBB); clear HS; have HS := HS2; clear HS2 hBB; (rw [hb]); clear hb; generalize wx.alloc (.cells #[.int .i64 0, .int .i64 0, .int .i64 0, .int .i64 0, .int .i64 0, .int .i64 0, .int .i64 0, .int .i64 0, .int .i64 0, .int .i64 0, .int .i64 0, .int .i64 0, .int .i64 0, .int .i64 0, .int .i64 0, .int .i64 0, .int .i64 0, .int .i64 0, .int .i64 0, .int .i64 0, .int .i64 0, .int .i64 0, .int .i64 0, .int .i64 0] 23) = wn at *
          refine hK.out _ _ ?_ (fun hHeld => ?_)
          · exact ⟨HS.out.s, HS.out.p, HS.out.o⟩
          clear hK K
          (try simp only [Act.put, nA, nB, nC])
          clear hHeld
          revert HA
          revert HL
          revert HS
          revert b13
          revert b4
          revert wn
          exact SH1.out
        · go_simp; obtain ⟨b14, hb⟩ : ∃ x, wx.heap.size = x := ⟨_, rfl⟩; have HR := Lib.hid (awk_cov HS.out b14 hb); (try (have N9 := Lib.hid (ownr_n HV.out hb))); have hBB := (Below.refl wx.heap.size wx).alloc (Nat.le_refl _) (.cells Try.zeroCells26 26); (try (have HV2 := Lib.hid (HV.out.alloc (.cells Try.zeroCells26 26)); clear HV; have HV := HV2; clear HV2)); (try (have HA2 := Lib.hid (And.intro (HA.out.1.below hBB) HA.out.2); clear HA; have HA := HA2; clear HA2)); (try (have HL2 := Lib.hid (HL.out.below hBB); clear HL; have HL := HL2; clear HL2)); have HS2 := Lib.hid (HS.out.down hBB); clear HS; have HS := HS2; clear HS2 hBB; (rw [hb]); clear hb; generalize wx.alloc (.cells Try.zeroCells26 26) = wn at *
          refine hK.out _ _ ?_ (fun hHeld => ?_)
          · exact ⟨HS.out.s, HS.out.p, HS.out.o⟩
          clear hK K
          (try simp only [Act.put, nA, nB, nC])
          clear hHeld
          revert HR
          revert HL
          revert HS
          revert b14
          revert b4
          revert wn
          exact SH2.out
      · go_simp; obtain ⟨b13, hb⟩ : ∃ x, wx.heap.size = x := ⟨_, rfl⟩; have HA := Lib.hid (awk_st HS.out b13 hb); (try (have N8 := Lib.hid (ownr_n HV.out hb))); have hBB := (Below.refl wx.heap.size wx).alloc (Nat.le_refl _) (.cells #[.int .i64 0, .int .i64 0, .int .i64 0, .int .i64 0, .int .i64 0, .int .i64 0, .int .i64 0, .int .i64 0, .int .i64 0, .int .i64 0, .int .i64 0, .int .i64 0, .int .i64 0, .int .i64 0, .int .i64 0, .int .i64 0, .int .i64 0, .int .i64 0, .int .i64 0, .int .i64 0, .int .i64 0, .int .i64 0, .int .i64 0, .int .i64 0] 23); (try (have HV2 := Lib.hid (HV.out.alloc (.cells #[.int .i64 0, .int .i64 0, .int .i64 0, .int .i64 0, .int .i64 0, .int .i64 0, .int .i64 0, .int .i64 0, .int .i64 0, .int .i64 0, .int .i64 0, .int .i64 0, .int .i64 0, .int .i64 0, .int .i64 0, .int .i64 0, .int .i64 0, .int .i64 0, .int .i64 0, .int .i64 0, .int .i64 0, .int .i64 0, .int .i64 0, .int .i64 0] 23)); clear HV; have HV := HV2; clear HV2)); (try (have HR2 := Lib.hid (And.intro (HR.out.1.below hBB) HR.out.2); clear HR; have HR := HR2; clear HR2)); (try (have HL2 := Lib.hid (HL.out.below hBB); clear HL; have HL := HL2; clear HL2)); have HS2 := Lib.hid (HS.out.down hBB); clear HS; have HS := HS2; clear HS2 hBB; (rw [hb]); clear hb; generalize wx.alloc (.cells #[.int .i64 0, .int .i64 0, .int .i64 0, .int .i64 0, .int .i64 0, .int .i64 0, .int .i64 0, .int .i64 0, .int .i64 0, .int .i64 0, .int .i64 0, .int .i64 0, .int .i64 0, .int .i64 0, .int .i64 0, .int .i64 0, .int .i64 0, .int .i64 0, .int .i64 0, .int .i64 0, .int .i64 0, .int .i64 0, .int .i64 0, .int .i64 0] 23) = wn at *
        refine hK.out _ _ ?_ (fun hHeld => ?_)
        · exact ⟨HS.out.s, HS.out.p, HS.out.o⟩
        clear hK K
        (try simp only [Act.put, nA, nB, nC])
        clear hHeld
        revert HA
        revert HS
        revert b13
        revert wn
        intro wx b13 HS HA
        refine wpAnyM_twoS 4 14 rfl rfl (by kernel_rfl) (fun K hK => ?_) (fun K hK => ?_)
        · go_simp; obtain ⟨b4, hb⟩ : ∃ x, wx.heap.size = x := ⟨_, rfl⟩; have HL := Lib.hid (awk_slc HS.out 4 b4 hb); have hBB := (Below.refl wx.heap.size wx).alloc (Nat.le_refl _) (.cells #[.int .i64 4] 3); (try (have HA2 := Lib.hid (And.intro (HA.out.1.below hBB) HA.out.2); clear HA; have HA := HA2; clear HA2)); (try (have HR2 := Lib.hid (And.intro (HR.out.1.below hBB) HR.out.2); clear HR; have HR := HR2; clear HR2)); have HS2 := Lib.hid (HS.out.down hBB); clear HS; have HS := HS2; clear HS2 hBB; (rw [hb]); clear hb; generalize wx.alloc (.cells #[.int .i64 4] 3) = wn at *
          refine hK.out _ _ ?_ (fun hHeld => ?_)
          · exact ⟨HS.out.s, HS.out.p, HS.out.o⟩
          clear hK K
          (try simp only [Act.put, nA, nB, nC])
          exact SH1.out _ _ _ HS HL HA
        · go_simp; obtain ⟨b14, hb⟩ : ∃ x, wx.heap.size = x := ⟨_, rfl⟩; have HR := Lib.hid (awk_cov HS.out b14 hb); (try (have N9 := Lib.hid (ownr_n HV.out hb))); have hBB := (Below.refl wx.heap.size wx).alloc (Nat.le_refl _) (.cells Try.zeroCells26 26); (try (have HV2 := Lib.hid (HV.out.alloc (.cells Try.zeroCells26 26)); clear HV; have HV := HV2; clear HV2)); (try (have HA2 := Lib.hid (And.intro (HA.out.1.below hBB) HA.out.2); clear HA; have HA := HA2; clear HA2)); (try (have HL2 := Lib.hid (HL.out.below hBB); clear HL; have HL := HL2; clear HL2)); have HS2 := Lib.hid (HS.out.down hBB); clear HS; have HS := HS2; clear HS2 hBB; (rw [hb]); clear hb; generalize wx.alloc (.cells Try.zeroCells26 26) = wn at *
          refine hK.out _ _ ?_ (fun hHeld => ?_)
          · exact ⟨HS.out.s, HS.out.p, HS.out.o⟩
          clear hK K
          (try simp only [Act.put, nA, nB, nC])
          clear hHeld
          revert HR
          revert HA
          revert HS
          revert b14
          revert b13
          revert wn
          exact SH3.out
      · go_simp; obtain ⟨b14, hb⟩ : ∃ x, wx.heap.size = x := ⟨_, rfl⟩; have HR := Lib.hid (awk_cov HS.out b14 hb); (try (have N9 := Lib.hid (ownr_n HV.out hb))); have hBB := (Below.refl wx.heap.size wx).alloc (Nat.le_refl _) (.cells Try.zeroCells26 26); (try (have HV2 := Lib.hid (HV.out.alloc (.cells Try.zeroCells26 26)); clear HV; have HV := HV2; clear HV2)); (try (have HA2 := Lib.hid (And.intro (HA.out.1.below hBB) HA.out.2); clear HA; have HA := HA2; clear HA2)); (try (have HL2 := Lib.hid (HL.out.below hBB); clear HL; have HL := HL2; clear HL2)); have HS2 := Lib.hid (HS.out.down hBB); clear HS; have HS := HS2; clear HS2 hBB; (rw [hb]); clear hb; generalize wx.alloc (.cells Try.zeroCells26 26) = wn at *
        refine hK.out _ _ ?_ (fun hHeld => ?_)
        · exact ⟨HS.out.s, HS.out.p, HS.out.o⟩
        clear hK K
        (try simp only [Act.put, nA, nB, nC])
        clear hHeld
        revert HR
        revert HS
        revert b14
        revert wn
        intro wx b14 HS HR
        refine wpAnyM_twoS 4 13 rfl rfl (by kernel_rfl) (fun K hK => ?_) (fun K hK => ?_)
        · go_simp; obtain ⟨b4, hb⟩ : ∃ x, wx.heap.size = x := ⟨_, rfl⟩; have HL := Lib.hid (awk_slc HS.out 4 b4 hb); have hBB := (Below.refl wx.heap.size wx).alloc (Nat.le_refl _) (.cells #[.int .i64 4] 3); (try (have HA2 := Lib.hid (And.intro (HA.out.1.below hBB) HA.out.2); clear HA; have HA := HA2; clear HA2)); (try (have HR2 := Lib.hid (And.intro (HR.out.1.below hBB) HR.out.2); clear HR; have HR := HR2; clear HR2)); have HS2 := Lib.hid (HS.out.down hBB); clear HS; have HS := HS2; clear HS2 hBB; (rw [hb]); clear hb; generalize wx.alloc (.cells #[.int .i64 4] 3) = wn at *
          refine hK.out _ _ ?_ (fun hHeld => ?_)
          · exact ⟨HS.out.s, HS.out.p, HS.out.o⟩
          clear hK K
          (try simp only [Act.put, nA, nB, nC])
          exact SH2.out _ _ _ HS HL HR
        · go_simp; obtain ⟨b13, hb⟩ : ∃ x, wx.heap.size = x := ⟨_, rfl⟩; have HA := Lib.hid (awk_st HS.out b13 hb); (try (have N8 := Lib.hid (ownr_n HV.out hb))); have hBB := (Below.refl wx.heap.size wx).alloc (Nat.le_refl _) (.cells #[.int .i64 0, .int .i64 0, .int .i64 0, .int .i64 0, .int .i64 0, .int .i64 0, .int .i64 0, .int .i64 0, .int .i64 0, .int .i64 0, .int .i64 0, .int .i64 0, .int .i64 0, .int .i64 0, .int .i64 0, .int .i64 0, .int .i64 0, .int .i64 0, .int .i64 0, .int .i64 0, .int .i64 0, .int .i64 0, .int .i64 0, .int .i64 0] 23); (try (have HV2 := Lib.hid (HV.out.alloc (.cells #[.int .i64 0, .int .i64 0, .int .i64 0, .int .i64 0, .int .i64 0, .int .i64 0, .int .i64 0, .int .i64 0, .int .i64 0, .int .i64 0, .int .i64 0, .int .i64 0, .int .i64 0, .int .i64 0, .int .i64 0, .int .i64 0, .int .i64 0, .int .i64 0, .int .i64 0, .int .i64 0, .int .i64 0, .int .i64 0, .int .i64 0, .int .i64 0] 23)); clear HV; have HV := HV2; clear HV2)); (try (have HR2 := Lib.hid (And.intro (HR.out.1.below hBB) HR.out.2); clear HR; have HR := HR2; clear HR2)); (try (have HL2 := Lib.hid (HL.out.below hBB); clear HL; have HL := HL2; clear HL2)); have HS2 := Lib.hid (HS.out.down hBB); clear HS; have HS := HS2; clear HS2 hBB; (rw [hb]); clear hb; generalize wx.alloc (.cells #[.int .i64 0, .int .i64 0, .int .i64 0, .int .i64 0, .int .i64 0, .int .i64 0, .int .i64 0, .int .i64 0, .int .i64 0, .int .i64 0, .int .i64 0, .int .i64 0, .int .i64 0, .int .i64 0, .int .i64 0, .int .i64 0, .int .i64 0, .int .i64 0, .int .i64 0, .int .i64 0, .int .i64 0, .int .i64 0, .int .i64 0, .int .i64 0] 23) = wn at *
          refine hK.out _ _ ?_ (fun hHeld => ?_)
          · exact ⟨HS.out.s, HS.out.p, HS.out.o⟩
          clear hK K
          (try simp only [Act.put, nA, nB, nC])
          exact SH3.out _ _ _ HS HA HR
    case sp1 =>
      intro wx b4 b13 HS HL HA
      refine wpAnyM_twoS 5 14 rfl rfl (by kernel_rfl) (fun K hK => ?_) (fun K hK => ?_)
      · go_simp
        (refine (pick_any _ 1 _ (fun _ => 4) _ HL.out (by omega)).mono ?_); rintro e wn ⟨rfl, hb6⟩; (rw [pkS_4]); have HS2 := Lib.hid (HS.out.down hb6); clear HS; have HS := HS2; clear HS2 HL; (try (have HA2 := Lib.hid (And.intro (HA.out.1.below hb6) HA.out.2); clear HA; have HA := HA2; clear HA2)); (try (have HR2 := Lib.hid (And.intro (HR.out.1.below hb6) HR.out.2); clear HR; have HR := HR2; clear HR2)); clear hb6
        (try dsimp only)
        (try simp only [Act.put, nA, nB, nC])
        refine hK.out _ _ ?_ (fun hHeld => ?_)
        · exact ⟨HS.out.s, HS.out.p, HS.out.o⟩
        clear hK K
        (try simp only [Act.put, nA, nB, nC])
        refine wpAnyM_take 6 (v := ?_) rfl (by kernel_rfl) (fun _ _ _ h => h) (Or.inl ⟨by rfl, ?_⟩) (by assumption) ?_
        rotate_left
        · (intro wz hSw; (try dsimp only at hSw); go_simp; rw [ob_built, show obF (pkF 4) 1125899906842624 1 1 = awO2 from rfl]; (try with_reducible rfl))
        (try simp only [Act.put, nA, nB, nC])
        exact SH4.out _ _ _ HS HA
      · go_simp; obtain ⟨b14, hb⟩ : ∃ x, wx.heap.size = x := ⟨_, rfl⟩; have HR := Lib.hid (awk_cov HS.out b14 hb); (try (have N9 := Lib.hid (ownr_n HV.out hb))); have hBB := (Below.refl wx.heap.size wx).alloc (Nat.le_refl _) (.cells Try.zeroCells26 26); (try (have HV2 := Lib.hid (HV.out.alloc (.cells Try.zeroCells26 26)); clear HV; have HV := HV2; clear HV2)); (try (have HA2 := Lib.hid (And.intro (HA.out.1.below hBB) HA.out.2); clear HA; have HA := HA2; clear HA2)); (try (have HL2 := Lib.hid (HL.out.below hBB); clear HL; have HL := HL2; clear HL2)); have HS2 := Lib.hid (HS.out.down hBB); clear HS; have HS := HS2; clear HS2 hBB; (rw [hb]); clear hb; generalize wx.alloc (.cells Try.zeroCells26 26) = wn at *
        refine hK.out _ _ ?_ (fun hHeld => ?_)
        · exact ⟨HS.out.s, HS.out.p, HS.out.o⟩
        clear hK K
        (try simp only [Act.put, nA, nB, nC])
        clear hHeld
        revert HR
        revert HA
        revert HL
        revert HS
        revert b14
        revert b13
        revert b4
        revert wn
        exact SH6.out
    case sp2 =>
      intro wx b4 b14 HS HL HR
      refine wpAnyM_twoS 5 13 rfl rfl (by kernel_rfl) (fun K hK => ?_) (fun K hK => ?_)
      · go_simp
        (refine (pick_any _ 1 _ (fun _ => 4) _ HL.out (by omega)).mono ?_); rintro e wn ⟨rfl, hb6⟩; (rw [pkS_4]); have HS2 := Lib.hid (HS.out.down hb6); clear HS; have HS := HS2; clear HS2 HL; (try (have HA2 := Lib.hid (And.intro (HA.out.1.below hb6) HA.out.2); clear HA; have HA := HA2; clear HA2)); (try (have HR2 := Lib.hid (And.intro (HR.out.1.below hb6) HR.out.2); clear HR; have HR := HR2; clear HR2)); clear hb6
        (try dsimp only)
        (try simp only [Act.put, nA, nB, nC])
        refine hK.out _ _ ?_ (fun hHeld => ?_)
        · exact ⟨HS.out.s, HS.out.p, HS.out.o⟩
        clear hK K
        (try simp only [Act.put, nA, nB, nC])
        refine wpAnyM_take 6 (v := ?_) rfl (by kernel_rfl) (fun _ _ _ h => h) (Or.inl ⟨by rfl, ?_⟩) (by assumption) ?_
        rotate_left
        · (intro wz hSw; (try dsimp only at hSw); go_simp; rw [ob_built, show obF (pkF 4) 1125899906842624 1 1 = awO2 from rfl]; (try with_reducible rfl))
        (try simp only [Act.put, nA, nB, nC])
        exact SH5.out _ _ _ HS HR
      · go_simp; obtain ⟨b13, hb⟩ : ∃ x, wx.heap.size = x := ⟨_, rfl⟩; have HA := Lib.hid (awk_st HS.out b13 hb); (try (have N8 := Lib.hid (ownr_n HV.out hb))); have hBB := (Below.refl wx.heap.size wx).alloc (Nat.le_refl _) (.cells #[.int .i64 0, .int .i64 0, .int .i64 0, .int .i64 0, .int .i64 0, .int .i64 0, .int .i64 0, .int .i64 0, .int .i64 0, .int .i64 0, .int .i64 0, .int .i64 0, .int .i64 0, .int .i64 0, .int .i64 0, .int .i64 0, .int .i64 0, .int .i64 0, .int .i64 0, .int .i64 0, .int .i64 0, .int .i64 0, .int .i64 0, .int .i64 0] 23); (try (have HV2 := Lib.hid (HV.out.alloc (.cells #[.int .i64 0, .int .i64 0, .int .i64 0, .int .i64 0, .int .i64 0, .int .i64 0, .int .i64 0, .int .i64 0, .int .i64 0, .int .i64 0, .int .i64 0, .int .i64 0, .int .i64 0, .int .i64 0, .int .i64 0, .int .i64 0, .int .i64 0, .int .i64 0, .int .i64 0, .int .i64 0, .int .i64 0, .int .i64 0, .int .i64 0, .int .i64 0] 23)); clear HV; have HV := HV2; clear HV2)); (try (have HR2 := Lib.hid (And.intro (HR.out.1.below hBB) HR.out.2); clear HR; have HR := HR2; clear HR2)); (try (have HL2 := Lib.hid (HL.out.below hBB); clear HL; have HL := HL2; clear HL2)); have HS2 := Lib.hid (HS.out.down hBB); clear HS; have HS := HS2; clear HS2 hBB; (rw [hb]); clear hb; generalize wx.alloc (.cells #[.int .i64 0, .int .i64 0, .int .i64 0, .int .i64 0, .int .i64 0, .int .i64 0, .int .i64 0, .int .i64 0, .int .i64 0, .int .i64 0, .int .i64 0, .int .i64 0, .int .i64 0, .int .i64 0, .int .i64 0, .int .i64 0, .int .i64 0, .int .i64 0, .int .i64 0, .int .i64 0, .int .i64 0, .int .i64 0, .int .i64 0, .int .i64 0] 23) = wn at *
        refine hK.out _ _ ?_ (fun hHeld => ?_)
        · exact ⟨HS.out.s, HS.out.p, HS.out.o⟩
        clear hK K
        (try simp only [Act.put, nA, nB, nC])
        exact SH6.out _ _ _ _ HS HL HA HR
    case sp3 =>
      intro wx b13 b14 HS HA HR
      refine wpAnyM_oneS 4 rfl (by kernel_rfl) (fun K hK => ?_)
      go_simp; obtain ⟨b4, hb⟩ : ∃ x, wx.heap.size = x := ⟨_, rfl⟩; have HL := Lib.hid (awk_slc HS.out 4 b4 hb); have hBB := (Below.refl wx.heap.size wx).alloc (Nat.le_refl _) (.cells #[.int .i64 4] 3); (try (have HA2 := Lib.hid (And.intro (HA.out.1.below hBB) HA.out.2); clear HA; have HA := HA2; clear HA2)); (try (have HR2 := Lib.hid (And.intro (HR.out.1.below hBB) HR.out.2); clear HR; have HR := HR2; clear HR2)); have HS2 := Lib.hid (HS.out.down hBB); clear HS; have HS := HS2; clear HS2 hBB; (rw [hb]); clear hb; generalize wx.alloc (.cells #[.int .i64 4] 3) = wn at *
      refine hK.out _ _ ?_ (fun hHeld => ?_)
      · exact ⟨HS.out.s, HS.out.p, HS.out.o⟩
      clear hK K
      (try simp only [Act.put, nA, nB, nC])
      exact SH6.out _ _ _ _ HS HL HA HR
    case sp4 =>
      intro wx b4 b13 HS HA
      refine wpAnyM_twoS 7 14 rfl rfl (by kernel_rfl) (fun K hK => ?_) (fun K hK => ?_)
      · refine if_pos_of (by rfl) (wp_bsl27 (.tmp 35) (.tmp 38) rfl rfl rfl ?_); (rw [awO_two]); obtain ⟨b7, hb⟩ : ∃ x, wx.heap.size = x := ⟨_, rfl⟩; have HL := Lib.hid (awk_obs HS.out awO b7 hb); have hBB := (Below.refl wx.heap.size wx).alloc (Nat.le_refl _) (.cells (arrv 54 awO) 41); (try (have HA2 := Lib.hid (And.intro (HA.out.1.below hBB) HA.out.2); clear HA; have HA := HA2; clear HA2)); (try (have HR2 := Lib.hid (And.intro (HR.out.1.below hBB) HR.out.2); clear HR; have HR := HR2; clear HR2)); have HS2 := Lib.hid (HS.out.down hBB); clear HS; have HS := HS2; clear HS2 hBB; (rw [hb]); clear hb; generalize wx.alloc (.cells (arrv 54 awO) 41) = wn at *
        refine hK.out _ _ ?_ (fun hHeld => ?_)
        · exact ⟨HS.out.s, HS.out.p, HS.out.o⟩
        clear hK K
        (try simp only [Act.put, nA, nB, nC])
        exact SH7.out _ _ _ _ HS HL HA
      · go_simp; obtain ⟨b14, hb⟩ : ∃ x, wx.heap.size = x := ⟨_, rfl⟩; have HR := Lib.hid (awk_cov HS.out b14 hb); (try (have N9 := Lib.hid (ownr_n HV.out hb))); have hBB := (Below.refl wx.heap.size wx).alloc (Nat.le_refl _) (.cells Try.zeroCells26 26); (try (have HV2 := Lib.hid (HV.out.alloc (.cells Try.zeroCells26 26)); clear HV; have HV := HV2; clear HV2)); (try (have HA2 := Lib.hid (And.intro (HA.out.1.below hBB) HA.out.2); clear HA; have HA := HA2; clear HA2)); (try (have HL2 := Lib.hid (HL.out.below hBB); clear HL; have HL := HL2; clear HL2)); have HS2 := Lib.hid (HS.out.down hBB); clear HS; have HS := HS2; clear HS2 hBB; (rw [hb]); clear hb; generalize wx.alloc (.cells Try.zeroCells26 26) = wn at *
        refine hK.out _ _ ?_ (fun hHeld => ?_)
        · exact ⟨HS.out.s, HS.out.p, HS.out.o⟩
        clear hK K
        (try simp only [Act.put, nA, nB, nC])
        clear hHeld
        revert HR
        revert HA
        revert HS
        revert b14
        revert b13
        revert b4
        revert wn
        exact SH9.out
    case sp5 =>
      intro wx b4 b14 HS HR
      refine wpAnyM_twoS 7 13 rfl rfl (by kernel_rfl) (fun K hK => ?_) (fun K hK => ?_)
      · refine if_pos_of (by rfl) (wp_bsl27 (.tmp 35) (.tmp 38) rfl rfl rfl ?_); (rw [awO_two]); obtain ⟨b7, hb⟩ : ∃ x, wx.heap.size = x := ⟨_, rfl⟩; have HL := Lib.hid (awk_obs HS.out awO b7 hb); have hBB := (Below.refl wx.heap.size wx).alloc (Nat.le_refl _) (.cells (arrv 54 awO) 41); (try (have HA2 := Lib.hid (And.intro (HA.out.1.below hBB) HA.out.2); clear HA; have HA := HA2; clear HA2)); (try (have HR2 := Lib.hid (And.intro (HR.out.1.below hBB) HR.out.2); clear HR; have HR := HR2; clear HR2)); have HS2 := Lib.hid (HS.out.down hBB); clear HS; have HS := HS2; clear HS2 hBB; (rw [hb]); clear hb; generalize wx.alloc (.cells (arrv 54 awO) 41) = wn at *
        refine hK.out _ _ ?_ (fun hHeld => ?_)
        · exact ⟨HS.out.s, HS.out.p, HS.out.o⟩
        clear hK K
        (try simp only [Act.put, nA, nB, nC])
        exact SH8.out _ _ _ _ HS HL HR
      · go_simp; obtain ⟨b13, hb⟩ : ∃ x, wx.heap.size = x := ⟨_, rfl⟩; have HA := Lib.hid (awk_st HS.out b13 hb); (try (have N8 := Lib.hid (ownr_n HV.out hb))); have hBB := (Below.refl wx.heap.size wx).alloc (Nat.le_refl _) (.cells #[.int .i64 0, .int .i64 0, .int .i64 0, .int .i64 0, .int .i64 0, .int .i64 0, .int .i64 0, .int .i64 0, .int .i64 0, .int .i64 0, .int .i64 0, .int .i64 0, .int .i64 0, .int .i64 0, .int .i64 0, .int .i64 0, .int .i64 0, .int .i64 0, .int .i64 0, .int .i64 0, .int .i64 0, .int .i64 0, .int .i64 0, .int .i64 0] 23); (try (have HV2 := Lib.hid (HV.out.alloc (.cells #[.int .i64 0, .int .i64 0, .int .i64 0, .int .i64 0, .int .i64 0, .int .i64 0, .int .i64 0, .int .i64 0, .int .i64 0, .int .i64 0, .int .i64 0, .int .i64 0, .int .i64 0, .int .i64 0, .int .i64 0, .int .i64 0, .int .i64 0, .int .i64 0, .int .i64 0, .int .i64 0, .int .i64 0, .int .i64 0, .int .i64 0, .int .i64 0] 23)); clear HV; have HV := HV2; clear HV2)); (try (have HR2 := Lib.hid (And.intro (HR.out.1.below hBB) HR.out.2); clear HR; have HR := HR2; clear HR2)); (try (have HL2 := Lib.hid (HL.out.below hBB); clear HL; have HL := HL2; clear HL2)); have HS2 := Lib.hid (HS.out.down hBB); clear HS; have HS := HS2; clear HS2 hBB; (rw [hb]); clear hb; generalize wx.alloc (.cells #[.int .i64 0, .int .i64 0, .int .i64 0, .int .i64 0, .int .i64 0, .int .i64 0, .int .i64 0, .int .i64 0, .int .i64 0, .int .i64 0, .int .i64 0, .int .i64 0, .int .i64 0, .int .i64 0, .int .i64 0, .int .i64 0, .int .i64 0, .int .i64 0, .int .i64 0, .int .i64 0, .int .i64 0, .int .i64 0, .int .i64 0, .int .i64 0] 23) = wn at *
        refine hK.out _ _ ?_ (fun hHeld => ?_)
        · exact ⟨HS.out.s, HS.out.p, HS.out.o⟩
        clear hK K
        (try simp only [Act.put, nA, nB, nC])
        exact SH9.out _ _ _ _ HS HA HR
    case sp6 =>
      intro wx b4 b13 b14 HS HL HA HR
      refine wpAnyM_oneS 5 rfl (by kernel_rfl) (fun K hK => ?_)
      go_simp
      (refine (pick_any _ 1 _ (fun _ => 4) _ HL.out (by omega)).mono ?_); rintro e wn ⟨rfl, hb6⟩; (rw [pkS_4]); have HS2 := Lib.hid (HS.out.down hb6); clear HS; have HS := HS2; clear HS2 HL; (try (have HA2 := Lib.hid (And.intro (HA.out.1.below hb6) HA.out.2); clear HA; have HA := HA2; clear HA2)); (try (have HR2 := Lib.hid (And.intro (HR.out.1.below hb6) HR.out.2); clear HR; have HR := HR2; clear HR2)); clear hb6
      (try dsimp only)
      (try simp only [Act.put, nA, nB, nC])
      refine hK.out _ _ ?_ (fun hHeld => ?_)
      · exact ⟨HS.out.s, HS.out.p, HS.out.o⟩
      clear hK K
      (try simp only [Act.put, nA, nB, nC])
      refine wpAnyM_take 6 (v := ?_) rfl (by kernel_rfl) (fun _ _ _ h => h) (Or.inl ⟨by rfl, ?_⟩) (by assumption) ?_
      rotate_left
      · (intro wz hSw; (try dsimp only at hSw); go_simp; rw [ob_built, show obF (pkF 4) 1125899906842624 1 1 = awO2 from rfl]; (try with_reducible rfl))
      (try simp only [Act.put, nA, nB, nC])
      exact SH9.out _ _ _ _ HS HA HR
    case sp7 =>
      intro wx b4 b7 b13 HS HL HA
      refine wpAnyM_twoS 8 14 rfl rfl (by kernel_rfl) (fun K hK => ?_) (fun K hK => ?_)
      · go_simp
        (refine (AL.out _ HS.out.flg.cell HS.out.flg.free _ HL.out).mono ?_); rintro e wn ⟨v, rfl, hu7, hv7⟩; (try (have N8 := Lib.hid (ownr_a HA.out.1 hv7 (rfl : (0 : Nat) = 0)))); (try (have N9 := Lib.hid (ownr_a HR.out.1 hv7 (rfl : (0 : Nat) = 0)))); obtain ⟨bv, hbv⟩ : ∃ x, wx.heap.size = x := ⟨_, rfl⟩; (rw [hbv] at hv7); clear hbv; have HV := Lib.hid hv7; (try (have HA2 := Lib.hid (And.intro (HA.out.1.upd hu7 (by have := HA.out.2; have := HS.out.ord; simp; omega)) HA.out.2); clear HA; have HA := HA2; clear HA2)); (try (have HR2 := Lib.hid (And.intro (HR.out.1.upd hu7 (by have := HR.out.2; have := HS.out.ord; simp; omega)) HR.out.2); clear HR; have HR := HR2; clear HR2)); have HS2 := Lib.hid (HS.out.upd hu7); clear HS; have HS := HS2; clear HS2 HL; clear hu7 hv7
        (try dsimp only)
        (try simp only [Act.put, nA, nB, nC])
        refine hK.out _ _ ?_ (fun hHeld => ?_)
        · exact ⟨HS.out.s, HS.out.p, HS.out.o⟩
        clear hK K
        (try simp only [Act.put, nA, nB, nC])
        refine wpAnyM_take 9 (v := ?_) rfl (by kernel_rfl) (fun _ _ _ h => h) (Or.inl ⟨by rfl, ?_⟩) (by assumption) ?_
        rotate_left
        · (intro wz hSw; (try dsimp only at hSw); go_simp; (try with_reducible rfl))
        (try simp only [Act.put, nA, nB, nC])
        refine wpAnyM_take 10 (v := ?_) rfl (by kernel_rfl) (fun _ _ _ h => h) (Or.inl ⟨by rfl, ?_⟩) (by assumption) ?_
        rotate_left
        · (intro wz hSw; (try dsimp only at hSw); go_simp; (try with_reducible rfl))
        (try simp only [Act.put, nA, nB, nC])
        refine wpAnyM_take 11 (v := ?_) rfl (by kernel_rfl) (fun _ _ _ h => h) (Or.inl ⟨by rfl, ?_⟩) (by assumption) ?_
        rotate_left
        · (intro wz hSw; (try dsimp only at hSw); go_simp; (try with_reducible rfl))
        (try simp only [Act.put, nA, nB, nC])
        refine wpAnyM_take 12 (v := ?_) rfl (by kernel_rfl) (fun _ _ _ h => h) (Or.inl ⟨by rfl, ?_⟩) (by assumption) ?_
        rotate_left
        · (intro wz hSw; (try dsimp only at hSw); go_simp; (try with_reducible rfl))
        (try simp only [Act.put, nA, nB, nC])
        exact SH10.out _ _ _ _ _ _ HS HV HA N8
      · go_simp; obtain ⟨b14, hb⟩ : ∃ x, wx.heap.size = x := ⟨_, rfl⟩; have HR := Lib.hid (awk_cov HS.out b14 hb); (try (have N9 := Lib.hid (ownr_n HV.out hb))); have hBB := (Below.refl wx.heap.size wx).alloc (Nat.le_refl _) (.cells Try.zeroCells26 26); (try (have HV2 := Lib.hid (HV.out.alloc (.cells Try.zeroCells26 26)); clear HV; have HV := HV2; clear HV2)); (try (have HA2 := Lib.hid (And.intro (HA.out.1.below hBB) HA.out.2); clear HA; have HA := HA2; clear HA2)); (try (have HL2 := Lib.hid (HL.out.below hBB); clear HL; have HL := HL2; clear HL2)); have HS2 := Lib.hid (HS.out.down hBB); clear HS; have HS := HS2; clear HS2 hBB; (rw [hb]); clear hb; generalize wx.alloc (.cells Try.zeroCells26 26) = wn at *
        refine hK.out _ _ ?_ (fun hHeld => ?_)
        · exact ⟨HS.out.s, HS.out.p, HS.out.o⟩
        clear hK K
        (try simp only [Act.put, nA, nB, nC])
        clear hHeld
        revert HR
        revert HA
        revert HL
        revert HS
        revert b14
        revert b13
        revert b7
        revert b4
        revert wn
        exact SH12.out
    case sp8 =>
      intro wx b4 b7 b14 HS HL HR
      refine wpAnyM_twoS 8 13 rfl rfl (by kernel_rfl) (fun K hK => ?_) (fun K hK => ?_)
      · go_simp
        (refine (AL.out _ HS.out.flg.cell HS.out.flg.free _ HL.out).mono ?_); rintro e wn ⟨v, rfl, hu7, hv7⟩; (try (have N8 := Lib.hid (ownr_a HA.out.1 hv7 (rfl : (0 : Nat) = 0)))); (try (have N9 := Lib.hid (ownr_a HR.out.1 hv7 (rfl : (0 : Nat) = 0)))); obtain ⟨bv, hbv⟩ : ∃ x, wx.heap.size = x := ⟨_, rfl⟩; (rw [hbv] at hv7); clear hbv; have HV := Lib.hid hv7; (try (have HA2 := Lib.hid (And.intro (HA.out.1.upd hu7 (by have := HA.out.2; have := HS.out.ord; simp; omega)) HA.out.2); clear HA; have HA := HA2; clear HA2)); (try (have HR2 := Lib.hid (And.intro (HR.out.1.upd hu7 (by have := HR.out.2; have := HS.out.ord; simp; omega)) HR.out.2); clear HR; have HR := HR2; clear HR2)); have HS2 := Lib.hid (HS.out.upd hu7); clear HS; have HS := HS2; clear HS2 HL; clear hu7 hv7
        (try dsimp only)
        (try simp only [Act.put, nA, nB, nC])
        refine hK.out _ _ ?_ (fun hHeld => ?_)
        · exact ⟨HS.out.s, HS.out.p, HS.out.o⟩
        clear hK K
        (try simp only [Act.put, nA, nB, nC])
        refine wpAnyM_take 9 (v := ?_) rfl (by kernel_rfl) (fun _ _ _ h => h) (Or.inl ⟨by rfl, ?_⟩) (by assumption) ?_
        rotate_left
        · (intro wz hSw; (try dsimp only at hSw); go_simp; (try with_reducible rfl))
        (try simp only [Act.put, nA, nB, nC])
        refine wpAnyM_take 10 (v := ?_) rfl (by kernel_rfl) (fun _ _ _ h => h) (Or.inl ⟨by rfl, ?_⟩) (by assumption) ?_
        rotate_left
        · (intro wz hSw; (try dsimp only at hSw); go_simp; (try with_reducible rfl))
        (try simp only [Act.put, nA, nB, nC])
        refine wpAnyM_take 11 (v := ?_) rfl (by kernel_rfl) (fun _ _ _ h => h) (Or.inl ⟨by rfl, ?_⟩) (by assumption) ?_
        rotate_left
        · (intro wz hSw; (try dsimp only at hSw); go_simp; (try with_reducible rfl))
        (try simp only [Act.put, nA, nB, nC])
        refine wpAnyM_take 12 (v := ?_) rfl (by kernel_rfl) (fun _ _ _ h => h) (Or.inl ⟨by rfl, ?_⟩) (by assumption) ?_
        rotate_left
        · (intro wz hSw; (try dsimp only at hSw); go_simp; (try with_reducible rfl))
        (try simp only [Act.put, nA, nB, nC])
        exact SH11.out _ _ _ _ _ _ HS HV HR N9
      · go_simp; obtain ⟨b13, hb⟩ : ∃ x, wx.heap.size = x := ⟨_, rfl⟩; have HA := Lib.hid (awk_st HS.out b13 hb); (try (have N8 := Lib.hid (ownr_n HV.out hb))); have hBB := (Below.refl wx.heap.size wx).alloc (Nat.le_refl _) (.cells #[.int .i64 0, .int .i64 0, .int .i64 0, .int .i64 0, .int .i64 0, .int .i64 0, .int .i64 0, .int .i64 0, .int .i64 0, .int .i64 0, .int .i64 0, .int .i64 0, .int .i64 0, .int .i64 0, .int .i64 0, .int .i64 0, .int .i64 0, .int .i64 0, .int .i64 0, .int .i64 0, .int .i64 0, .int .i64 0, .int .i64 0, .int .i64 0] 23); (try (have HV2 := Lib.hid (HV.out.alloc (.cells #[.int .i64 0, .int .i64 0, .int .i64 0, .int .i64 0, .int .i64 0, .int .i64 0, .int .i64 0, .int .i64 0, .int .i64 0, .int .i64 0, .int .i64 0, .int .i64 0, .int .i64 0, .int .i64 0, .int .i64 0, .int .i64 0, .int .i64 0, .int .i64 0, .int .i64 0, .int .i64 0, .int .i64 0, .int .i64 0, .int .i64 0, .int .i64 0] 23)); clear HV; have HV := HV2; clear HV2)); (try (have HR2 := Lib.hid (And.intro (HR.out.1.below hBB) HR.out.2); clear HR; have HR := HR2; clear HR2)); (try (have HL2 := Lib.hid (HL.out.below hBB); clear HL; have HL := HL2; clear HL2)); have HS2 := Lib.hid (HS.out.down hBB); clear HS; have HS := HS2; clear HS2 hBB; (rw [hb]); clear hb; generalize wx.alloc (.cells #[.int .i64 0, .int .i64 0, .int .i64 0, .int .i64 0, .int .i64 0, .int .i64 0, .int .i64 0, .int .i64 0, .int .i64 0, .int .i64 0, .int .i64 0, .int .i64 0, .int .i64 0, .int .i64 0, .int .i64 0, .int .i64 0, .int .i64 0, .int .i64 0, .int .i64 0, .int .i64 0, .int .i64 0, .int .i64 0, .int .i64 0, .int .i64 0] 23) = wn at *
        refine hK.out _ _ ?_ (fun hHeld => ?_)
        · exact ⟨HS.out.s, HS.out.p, HS.out.o⟩
        clear hK K
        (try simp only [Act.put, nA, nB, nC])
        exact SH12.out _ _ _ _ _ HS HL HA HR
    case sp9 =>
      intro wx b4 b13 b14 HS HA HR
      refine wpAnyM_oneS 7 rfl (by kernel_rfl) (fun K hK => ?_)
      refine if_pos_of (by rfl) (wp_bsl27 (.tmp 35) (.tmp 38) rfl rfl rfl ?_); (rw [awO_two]); obtain ⟨b7, hb⟩ : ∃ x, wx.heap.size = x := ⟨_, rfl⟩; have HL := Lib.hid (awk_obs HS.out awO b7 hb); have hBB := (Below.refl wx.heap.size wx).alloc (Nat.le_refl _) (.cells (arrv 54 awO) 41); (try (have HA2 := Lib.hid (And.intro (HA.out.1.below hBB) HA.out.2); clear HA; have HA := HA2; clear HA2)); (try (have HR2 := Lib.hid (And.intro (HR.out.1.below hBB) HR.out.2); clear HR; have HR := HR2; clear HR2)); have HS2 := Lib.hid (HS.out.down hBB); clear HS; have HS := HS2; clear HS2 hBB; (rw [hb]); clear hb; generalize wx.alloc (.cells (arrv 54 awO) 41) = wn at *
      refine hK.out _ _ ?_ (fun hHeld => ?_)
      · exact ⟨HS.out.s, HS.out.p, HS.out.o⟩
      clear hK K
      (try simp only [Act.put, nA, nB, nC])
      exact SH12.out _ _ _ _ _ HS HL HA HR
    case sp10 =>
      intro wx b4 b7 bv v b13 HS HV HA N8
      refine wpAnyM_oneS 14 rfl (by kernel_rfl) (fun K hK => ?_)
      go_simp; obtain ⟨b14, hb⟩ : ∃ x, wx.heap.size = x := ⟨_, rfl⟩; have HR := Lib.hid (awk_cov HS.out b14 hb); (try (have N9 := Lib.hid (ownr_n HV.out hb))); have hBB := (Below.refl wx.heap.size wx).alloc (Nat.le_refl _) (.cells Try.zeroCells26 26); (try (have HV2 := Lib.hid (HV.out.alloc (.cells Try.zeroCells26 26)); clear HV; have HV := HV2; clear HV2)); (try (have HA2 := Lib.hid (And.intro (HA.out.1.below hBB) HA.out.2); clear HA; have HA := HA2; clear HA2)); (try (have HL2 := Lib.hid (HL.out.below hBB); clear HL; have HL := HL2; clear HL2)); have HS2 := Lib.hid (HS.out.down hBB); clear HS; have HS := HS2; clear HS2 hBB; (rw [hb]); clear hb; generalize wx.alloc (.cells Try.zeroCells26 26) = wn at *
      refine hK.out _ _ ?_ (fun hHeld => ?_)
      · exact ⟨HS.out.s, HS.out.p, HS.out.o⟩
      clear hK K
      (try simp only [Act.put, nA, nB, nC])
      clear hHeld
      revert N9
      revert N8
      revert HR
      revert HA
      revert HV
      revert HS
      revert b14
      revert b13
      revert v
      revert bv
      revert b7
      revert b4
      revert wn
      exact SH13.out
    case sp11 =>
      intro wx b4 b7 bv v b14 HS HV HR N9
      refine wpAnyM_oneS 13 rfl (by kernel_rfl) (fun K hK => ?_)
      go_simp; obtain ⟨b13, hb⟩ : ∃ x, wx.heap.size = x := ⟨_, rfl⟩; have HA := Lib.hid (awk_st HS.out b13 hb); (try (have N8 := Lib.hid (ownr_n HV.out hb))); have hBB := (Below.refl wx.heap.size wx).alloc (Nat.le_refl _) (.cells #[.int .i64 0, .int .i64 0, .int .i64 0, .int .i64 0, .int .i64 0, .int .i64 0, .int .i64 0, .int .i64 0, .int .i64 0, .int .i64 0, .int .i64 0, .int .i64 0, .int .i64 0, .int .i64 0, .int .i64 0, .int .i64 0, .int .i64 0, .int .i64 0, .int .i64 0, .int .i64 0, .int .i64 0, .int .i64 0, .int .i64 0, .int .i64 0] 23); (try (have HV2 := Lib.hid (HV.out.alloc (.cells #[.int .i64 0, .int .i64 0, .int .i64 0, .int .i64 0, .int .i64 0, .int .i64 0, .int .i64 0, .int .i64 0, .int .i64 0, .int .i64 0, .int .i64 0, .int .i64 0, .int .i64 0, .int .i64 0, .int .i64 0, .int .i64 0, .int .i64 0, .int .i64 0, .int .i64 0, .int .i64 0, .int .i64 0, .int .i64 0, .int .i64 0, .int .i64 0] 23)); clear HV; have HV := HV2; clear HV2)); (try (have HR2 := Lib.hid (And.intro (HR.out.1.below hBB) HR.out.2); clear HR; have HR := HR2; clear HR2)); (try (have HL2 := Lib.hid (HL.out.below hBB); clear HL; have HL := HL2; clear HL2)); have HS2 := Lib.hid (HS.out.down hBB); clear HS; have HS := HS2; clear HS2 hBB; (rw [hb]); clear hb; generalize wx.alloc (.cells #[.int .i64 0, .int .i64 0, .int .i64 0, .int .i64 0, .int .i64 0, .int .i64 0, .int .i64 0, .int .i64 0, .int .i64 0, .int .i64 0, .int .i64 0, .int .i64 0, .int .i64 0, .int .i64 0, .int .i64 0, .int .i64 0, .int .i64 0, .int .i64 0, .int .i64 0, .int .i64 0, .int .i64 0, .int .i64 0, .int .i64 0, .int .i64 0] 23) = wn at *
      refine hK.out _ _ ?_ (fun hHeld => ?_)
      · exact ⟨HS.out.s, HS.out.p, HS.out.o⟩
      clear hK K
      (try simp only [Act.put, nA, nB, nC])
      exact SH13.out _ _ _ _ _ _ _ HS HV HA HR N8 N9
    case sp12 =>
      intro wx b4 b7 b13 b14 HS HL HA HR
      refine wpAnyM_oneS 8 rfl (by kernel_rfl) (fun K hK => ?_)
      go_simp
      (refine (AL.out _ HS.out.flg.cell HS.out.flg.free _ HL.out).mono ?_); rintro e wn ⟨v, rfl, hu7, hv7⟩; (try (have N8 := Lib.hid (ownr_a HA.out.1 hv7 (rfl : (0 : Nat) = 0)))); (try (have N9 := Lib.hid (ownr_a HR.out.1 hv7 (rfl : (0 : Nat) = 0)))); obtain ⟨bv, hbv⟩ : ∃ x, wx.heap.size = x := ⟨_, rfl⟩; (rw [hbv] at hv7); clear hbv; have HV := Lib.hid hv7; (try (have HA2 := Lib.hid (And.intro (HA.out.1.upd hu7 (by have := HA.out.2; have := HS.out.ord; simp; omega)) HA.out.2); clear HA; have HA := HA2; clear HA2)); (try (have HR2 := Lib.hid (And.intro (HR.out.1.upd hu7 (by have := HR.out.2; have := HS.out.ord; simp; omega)) HR.out.2); clear HR; have HR := HR2; clear HR2)); have HS2 := Lib.hid (HS.out.upd hu7); clear HS; have HS := HS2; clear HS2 HL; clear hu7 hv7
      (try dsimp only)
      (try simp only [Act.put, nA, nB, nC])
      refine hK.out _ _ ?_ (fun hHeld => ?_)
      · exact ⟨HS.out.s, HS.out.p, HS.out.o⟩
      clear hK K
      (try simp only [Act.put, nA, nB, nC])
      refine wpAnyM_take 9 (v := ?_) rfl (by kernel_rfl) (fun _ _ _ h => h) (Or.inl ⟨by rfl, ?_⟩) (by assumption) ?_
      rotate_left
      · (intro wz hSw; (try dsimp only at hSw); go_simp; (try with_reducible rfl))
      (try simp only [Act.put, nA, nB, nC])
      refine wpAnyM_take 10 (v := ?_) rfl (by kernel_rfl) (fun _ _ _ h => h) (Or.inl ⟨by rfl, ?_⟩) (by assumption) ?_
      rotate_left
      · (intro wz hSw; (try dsimp only at hSw); go_simp; (try with_reducible rfl))
      (try simp only [Act.put, nA, nB, nC])
      refine wpAnyM_take 11 (v := ?_) rfl (by kernel_rfl) (fun _ _ _ h => h) (Or.inl ⟨by rfl, ?_⟩) (by assumption) ?_
      rotate_left
      · (intro wz hSw; (try dsimp only at hSw); go_simp; (try with_reducible rfl))
      (try simp only [Act.put, nA, nB, nC])
      refine wpAnyM_take 12 (v := ?_) rfl (by kernel_rfl) (fun _ _ _ h => h) (Or.inl ⟨by rfl, ?_⟩) (by assumption) ?_
      rotate_left
      · (intro wz hSw; (try dsimp only at hSw); go_simp; (try with_reducible rfl))
      (try simp only [Act.put, nA, nB, nC])
      exact SH13.out _ _ _ _ _ _ _ HS HV HA HR N8 N9
    case sp13 =>
      intro wx b4 b7 bv v b13 b14 HS HV HA HR N8 N9
      have hHeld : (((fun w' => Blk w' sb 23 24 awS ∧ Blk w' pb 26 300 awC ∧ Blk w' ob 41 27 awO1)) wx) := by exact ⟨HS.out.s, HS.out.p, HS.out.o⟩
      have HN := Lib.hid (blk_ne2 HR.out.1 HA.out.1 (by decide)); have HE := Lib.hid (And.intro (HR.out.1.setRow_other (arrv 24 S2) HN.out) HR.out.2); have HV2 := Lib.hid (HV.out.row2 (arrv 24 S2) N8.out); clear HV; have HV := HV2; clear HV2; have HS2 := Lib.hid (HS.out.row HA.out.2 (arrv 24 S2)); clear HS; have HS := HS2; clear HS2; have HB := Lib.hid (HA.out.1.setRow S2)
      clear hHeld
      refine wpAnyM_doneS 15 rfl (by kernel_rfl) (by rfl) (run_store_row 23 (.tmp 8) (.tmp 41) rfl _ rfl rfl HA.out.1 ist) ?_ (fun hHeld => ?_)
      · exact ⟨HS.out.s, HS.out.p, HS.out.o⟩
      (try simp only [Act.put])
      have HV2 := Lib.hid (HV.out.row2 (arrv 300 P2) N9.out); clear HV; have HV := HV2; clear HV2; have HS2 := Lib.hid (HS.out.row HE.out.2 (arrv 300 P2)); clear HS; have HS := HS2; clear HS2; have HB2 := Lib.hid (HB.out.setRow_other (arrv 300 P2) (fun e => HN.out e.symm)); clear HB; have HB := HB2; clear HB2
      clear hHeld
      refine wpAnyM_doneS 16 rfl (by kernel_rfl) (by rfl) (run_store_row 26 (.tmp 9) (.tmp 42) rfl _ rfl rfl HE.out.1 icov) ?_ (fun hHeld => ?_)
      · exact ⟨HS.out.s, HS.out.p, HS.out.o⟩
      (try simp only [Act.put])
      refine wpAnyM_one 17 rfl (by kernel_rfl) (fun K hK => ?_)
      go_simp
      refine hK.out _ _ (.inl (by kernel_rfl)) (fun _ => ?_)
      clear hK K
      (try simp only [Act.put, nA, nB, nC])
      refine wpAnyM_done (by kernel_rfl) ?_ _
      (go_wp2_with fail; obtain ⟨q, cp, hvq, hr⟩ := HV.out.told; (rw [hvq]); clear hvq; go_meet; exact ⟨_, _, _, _, rfl, rfl, rfl, Lib.hid ⟨HS.out, HB.out, hr⟩⟩)
  case rest =>
    obtain ⟨b8, b9, q, cp, rfl, rfl, rfl, HB⟩ := hcut
    clear HS AL
    have h0 := Lib.hid KT.out.1
    have h1 := Lib.hid KT.out.2.1
    obtain ⟨⟨hSN, hPN⟩, hVN⟩ := E5.out
    have hq4 : PN (276 + 4) = 8796093022208 := by rw [← hPN]; exact aw_st1.2.1
    have hs4 : SN 4 = 536870912 := by rw [← hSN]; exact aw_st1.1 4 (by omega)
    have hv4 : VN = 35184372088832 := by rw [← hVN]; exact aw_one.1
    have hE : eqB 24 S2 SN = true := eqB_iff.2 fun i hi => by rw [← hSN]; exact (KT.out.2.2.1 i hi).trans (aw_st1.1 i hi).symm
    have HE := Lib.hid hE
    have H4 := Lib.hid (And.intro hq4 hs4)
    subst hv4
    clear hE hq4 hs4 hSN hPN hVN E5 KT
    go_upto_region 9 with fail
    have CN := Lib.hid (awk_count q cp HB.out.2.2 h0.out h1.out)
    go_upto_region 10 with (go_at_call 8; (refine CN.out.mono ?_); rintro e w4 ⟨rfl, hb4⟩; have HB2 := Lib.hid (And.intro (HB.out.1.down hb4) (And.intro (HB.out.2.1.below hb4) (HB.out.2.2.below hb4))); clear HB; have HB := HB2; clear HB2 hb4)
    clear CN
    refine wp_region_lit ?_
    refine wpList_step (fun K hK => ?_)
    go_simp
    (refine (likely_any _ _ 1 _ (by omega) (by omega)).mono ?_); rintro e w5 ⟨rfl, hb5⟩; (rw [awk_lik.1])
    (try dsimp only)
    (try simp only [Act.put, nA, nB, nC])
    refine hK _ _ ?_
    clear hK K
    refine wpList_val (v := ?_) rfl ?_ ?_
    rotate_left
    · (go_simp; (try (first | with_reducible rfl | (constructor <;> with_reducible rfl))))
    (try simp only [Act.put, nA, nB, nC])
    refine wpList_step (fun K hK => ?_)
    go_simp
    (refine (likely_any _ _ 1 _ (by omega) (by omega)).mono ?_); rintro e w6 ⟨rfl, hb6⟩; (rw [awk_lik.2]); have hb7 := Below.after hb5 hb6; have KB := Lib.hid (Below.after HB.out.1.below hb7); obtain ⟨b, hqb, r0, r1, r2⟩ := (HB.out.2.2.below hb7) 1 (by omega); subst hqb; (rw [h1.out] at r0); have m5 := (HB.out.1.down hb7).t.cell (i := 4) (by omega); have m6 := (HB.out.1.down hb7).q.cell (i := 276 + 4) (by omega); (rw [H4.out.2] at m5); (rw [H4.out.1] at m6); obtain ⟨⟨c0, c1, c2⟩, _⟩ := (HB.out.1.down hb7).r.c; have c9 := (HB.out.1.down hb7).flg.cell; have T6 := Lib.hid (HB.out.1.down hb7).t; have T7 := Lib.hid (HB.out.2.1.below hb7); clear hb5 hb6 hb7
    (try dsimp only)
    (try simp only [Act.put, nA, nB, nC])
    refine hK _ _ ?_
    clear hK K
    first | (refine wpList_val (v := ?_) (by rfl) ?_ ?_; rotate_left; focus ((go_simp; (try (first | with_reducible rfl | (constructor <;> with_reducible rfl)))))) | refine wpList_skip (by rfl) ?_
    (try simp only [Act.put, nA, nB, nC])
    refine wpList_val (v := ?_) rfl ?_ ?_
    rotate_left
    · (go_simp; (try (first | with_reducible rfl | (constructor <;> with_reducible rfl))))
    (try simp only [Act.put, nA, nB, nC])
    refine wpList_val (v := ?_) rfl ?_ ?_
    rotate_left
    · (go_simp; (try (first | with_reducible rfl | (constructor <;> with_reducible rfl))))
    (try simp only [Act.put, nA, nB, nC])
    first | (refine wpList_val (v := ?_) (by rfl) ?_ ?_; rotate_left; focus ((go_simp; (try (first | with_reducible rfl | (constructor <;> with_reducible rfl)))))) | refine wpList_skip (by rfl) ?_
    (try simp only [Act.put, nA, nB, nC])
    first | (refine wpList_val (v := ?_) (by rfl) ?_ ?_; rotate_left; focus ((go_simp; (try (first | with_reducible rfl | (constructor <;> with_reducible rfl)))))) | refine wpList_skip (by rfl) ?_
    (try simp only [Act.put, nA, nB, nC])
    refine wpList_val (v := ?_) rfl ?_ ?_
    rotate_left
    · (go_simp; (try (first | with_reducible rfl | (constructor <;> with_reducible rfl))))
    (try simp only [Act.put, nA, nB, nC])
    refine wpList_val (v := ?_) rfl ?_ ?_
    rotate_left
    · (go_simp; (try (first | with_reducible rfl | (constructor <;> with_reducible rfl))))
    (try simp only [Act.put, nA, nB, nC])
    first | (refine wpList_val (v := ?_) (by rfl) ?_ ?_; rotate_left; focus ((go_simp; (try (first | with_reducible rfl | (constructor <;> with_reducible rfl)))))) | refine wpList_skip (by rfl) ?_
    (try simp only [Act.put, nA, nB, nC])
    first | (refine wpList_val (v := ?_) (by rfl) ?_ ?_; rotate_left; focus ((go_simp; (try (first | with_reducible rfl | (constructor <;> with_reducible rfl)))))) | refine wpList_skip (by rfl) ?_
    (try simp only [Act.put, nA, nB, nC])
    first | (refine wpList_val (v := ?_) (by rfl) ?_ ?_; rotate_left; focus ((go_simp; (try (first | with_reducible rfl | (constructor <;> with_reducible rfl)))))) | refine wpList_skip (by rfl) ?_
    (try simp only [Act.put, nA, nB, nC])
    refine wpList_val (v := ?_) rfl ?_ ?_
    rotate_left
    · (go_simp; (try (first | with_reducible rfl | (constructor <;> with_reducible rfl))))
    (try simp only [Act.put, nA, nB, nC])
    refine wpList_val (v := ?_) rfl ?_ ?_
    rotate_left
    · (go_simp; (try (first | with_reducible rfl | (constructor <;> with_reducible rfl))))
    (try simp only [Act.put, nA, nB, nC])
    first | (refine wpList_val (v := ?_) (by rfl) ?_ ?_; rotate_left; focus ((go_simp; (try (first | with_reducible rfl | (constructor <;> with_reducible rfl)))))) | refine wpList_skip (by rfl) ?_
    (try simp only [Act.put, nA, nB, nC])
    first | (refine wpList_val (v := ?_) (by rfl) ?_ ?_; rotate_left; focus ((go_simp; (try (first | with_reducible rfl | (constructor <;> with_reducible rfl)))))) | refine wpList_skip (by rfl) ?_
    (try simp only [Act.put, nA, nB, nC])
    first | (refine wpList_val (v := ?_) (by rfl) ?_ ?_; rotate_left; focus ((go_simp; (try (first | with_reducible rfl | (constructor <;> with_reducible rfl)))))) | refine wpList_skip (by rfl) ?_
    (try simp only [Act.put, nA, nB, nC])
    first | (refine wpList_val (v := ?_) (by rfl) ?_ ?_; rotate_left; focus ((go_simp; (try (first | with_reducible rfl | (constructor <;> with_reducible rfl)))))) | refine wpList_skip (by rfl) ?_
    (try simp only [Act.put, nA, nB, nC])
    refine wpList_val (v := ?_) rfl ?_ ?_
    rotate_left
    · (go_simp; (try (first | with_reducible rfl | (constructor <;> with_reducible rfl))))
    (try simp only [Act.put, nA, nB, nC])
    refine wpList_val (v := ?_) rfl ?_ ?_
    rotate_left
    · (go_simp; (try (first | with_reducible rfl | (constructor <;> with_reducible rfl))))
    (try simp only [Act.put, nA, nB, nC])
    first | (refine wpList_val (v := ?_) (by rfl) ?_ ?_; rotate_left; focus (refine Eq.trans (run_load_row 23 (.tmp 8) (by rfl) (b8) (by rfl) _ _ _ _ (T7.out) Try.underlying23 rfl (ist.trans (by rw [arrv_size]))) ?_; with_reducible rfl)) | refine wpList_skip (by rfl) ?_
    (try simp only [Act.put, nA, nB, nC])
    first | (refine wpList_val (v := ?_) (by rfl) ?_ ?_; rotate_left; focus (refine Eq.trans (run_load_row 23 (.tmp 5) (by rfl) (tb) (by rfl) _ _ _ _ (T6.out) Try.underlying23 rfl (ist.trans (by rw [arrv_size]))) ?_; with_reducible rfl)) | refine wpList_skip (by rfl) ?_
    (try simp only [Act.put, nA, nB, nC])
    first | (refine wpList_val (v := ?_) (by rfl) ?_ ?_; rotate_left; focus (refine Eq.trans (run_op_eqlVec Try.underlying23 (by kernel_rfl) (.tmp 73) (.tmp 74) (by rfl) (by rfl) (by rfl) HE.out) ?_; with_reducible rfl)) | refine wpList_skip (by rfl) ?_
    (try simp only [Act.put, nA, nB, nC])
    refine wpList_val (v := ?_) rfl ?_ ?_
    rotate_left
    · (go_simp; (try (first | with_reducible rfl | (constructor <;> with_reducible rfl))))
    (try simp only [Act.put, nA, nB, nC])
    refine wpList_val (v := ?_) rfl ?_ ?_
    rotate_left
    · (go_simp; (try (first | with_reducible rfl | (constructor <;> with_reducible rfl))))
    (try simp only [Act.put, nA, nB, nC])
    first | (refine wpList_val (v := ?_) (by rfl) ?_ ?_; rotate_left; focus ((go_simp; (try (first | with_reducible rfl | (constructor <;> with_reducible rfl)))))) | refine wpList_skip (by rfl) ?_
    (try simp only [Act.put, nA, nB, nC])
    first | (refine wpList_val (v := ?_) (by rfl) ?_ ?_; rotate_left; focus ((go_simp; (try (first | with_reducible rfl | (constructor <;> with_reducible rfl)))))) | refine wpList_skip (by rfl) ?_
    (try simp only [Act.put, nA, nB, nC])
    refine wpList_val (v := ?_) rfl ?_ ?_
    rotate_left
    · (go_simp; (try (first | with_reducible rfl | (constructor <;> with_reducible rfl))))
    (try simp only [Act.put, nA, nB, nC])
    refine wpList_val (v := ?_) rfl ?_ ?_
    rotate_left
    · (go_simp; (try (first | with_reducible rfl | (constructor <;> with_reducible rfl))))
    (try simp only [Act.put, nA, nB, nC])
    first | (refine wpList_val (v := ?_) (by rfl) ?_ ?_; rotate_left; focus ((go_simp; (try (first | with_reducible rfl | (constructor <;> with_reducible rfl)))))) | refine wpList_skip (by rfl) ?_
    (try simp only [Act.put, nA, nB, nC])
    first | (refine wpList_val (v := ?_) (by rfl) ?_ ?_; rotate_left; focus ((go_simp; (try (first | with_reducible rfl | (constructor <;> with_reducible rfl)))))) | refine wpList_skip (by rfl) ?_
    (try simp only [Act.put, nA, nB, nC])
    refine wpList_val (v := ?_) rfl ?_ ?_
    rotate_left
    · (go_simp; (try (first | with_reducible rfl | (constructor <;> with_reducible rfl))))
    (try simp only [Act.put, nA, nB, nC])
    refine wpList_val (v := ?_) rfl ?_ ?_
    rotate_left
    · (go_simp; (try (first | with_reducible rfl | (constructor <;> with_reducible rfl))))
    (try simp only [Act.put, nA, nB, nC])
    first | (refine wpList_val (v := ?_) (by rfl) ?_ ?_; rotate_left; focus ((go_simp; (try (first | with_reducible rfl | (constructor <;> with_reducible rfl)))))) | refine wpList_skip (by rfl) ?_
    (try simp only [Act.put, nA, nB, nC])
    first | (refine wpList_val (v := ?_) (by rfl) ?_ ?_; rotate_left; focus ((go_simp; (try (first | with_reducible rfl | (constructor <;> with_reducible rfl)))))) | refine wpList_skip (by rfl) ?_
    (try simp only [Act.put, nA, nB, nC])
    first | (refine wpList_val (v := ?_) (by rfl) ?_ ?_; rotate_left; focus ((go_simp; (try (first | with_reducible rfl | (constructor <;> with_reducible rfl)))))) | refine wpList_skip (by rfl) ?_
    (try simp only [Act.put, nA, nB, nC])
    first | (refine wpList_val (v := ?_) (by rfl) ?_ ?_; rotate_left; focus ((go_simp; (try (first | with_reducible rfl | (constructor <;> with_reducible rfl)))))) | refine wpList_skip (by rfl) ?_
    (try simp only [Act.put, nA, nB, nC])
    first | (refine wpList_val (v := ?_) (by rfl) ?_ ?_; rotate_left; focus ((go_simp; (try (first | with_reducible rfl | (constructor <;> with_reducible rfl)))))) | refine wpList_skip (by rfl) ?_
    (try simp only [Act.put, nA, nB, nC])
    refine wpList_val (v := ?_) rfl ?_ ?_
    rotate_left
    · (go_simp; (try (first | with_reducible rfl | (constructor <;> with_reducible rfl))))
    (try simp only [Act.put, nA, nB, nC])
    refine wpList_val (v := ?_) rfl ?_ ?_
    rotate_left
    · (go_simp; (try (first | with_reducible rfl | (constructor <;> with_reducible rfl))))
    (try simp only [Act.put, nA, nB, nC])
    first | (refine wpList_val (v := ?_) (by rfl) ?_ ?_; rotate_left; focus ((go_simp; (try (first | with_reducible rfl | (constructor <;> with_reducible rfl)))))) | refine wpList_skip (by rfl) ?_
    (try simp only [Act.put, nA, nB, nC])
    first | (refine wpList_val (v := ?_) (by rfl) ?_ ?_; rotate_left; focus ((go_simp; (try (first | with_reducible rfl | (constructor <;> with_reducible rfl)))))) | refine wpList_skip (by rfl) ?_
    (try simp only [Act.put, nA, nB, nC])
    first | (refine wpList_val (v := ?_) (by rfl) ?_ ?_; rotate_left; focus ((go_simp; (try (first | with_reducible rfl | (constructor <;> with_reducible rfl)))))) | refine wpList_skip (by rfl) ?_
    (try simp only [Act.put, nA, nB, nC])
    refine wpList_val (v := ?_) rfl ?_ ?_
    rotate_left
    · (go_simp; (try (first | with_reducible rfl | (constructor <;> with_reducible rfl))))
    (try simp only [Act.put, nA, nB, nC])
    refine wpList_val (v := ?_) rfl ?_ ?_
    rotate_left
    · (go_simp; (try (first | with_reducible rfl | (constructor <;> with_reducible rfl))))
    (try simp only [Act.put, nA, nB, nC])
    first | (refine wpList_val (v := ?_) (by rfl) ?_ ?_; rotate_left; focus ((go_simp; (try (first | with_reducible rfl | (constructor <;> with_reducible rfl)))))) | refine wpList_skip (by rfl) ?_
    (try simp only [Act.put, nA, nB, nC])
    first | (refine wpList_val (v := ?_) (by rfl) ?_ ?_; rotate_left; focus ((go_simp; (try (first | with_reducible rfl | (constructor <;> with_reducible rfl)))))) | refine wpList_skip (by rfl) ?_
    (try simp only [Act.put, nA, nB, nC])
    first | (refine wpList_val (v := ?_) (by rfl) ?_ ?_; rotate_left; focus ((go_simp; (try (first | with_reducible rfl | (constructor <;> with_reducible rfl)))))) | refine wpList_skip (by rfl) ?_
    (try simp only [Act.put, nA, nB, nC])
    refine wpList_val (v := ?_) rfl ?_ ?_
    rotate_left
    · (go_simp; (try (first | with_reducible rfl | (constructor <;> with_reducible rfl))))
    (try simp only [Act.put, nA, nB, nC])
    refine wpList_val (v := ?_) rfl ?_ ?_
    rotate_left
    · (go_simp; (try (first | with_reducible rfl | (constructor <;> with_reducible rfl))))
    (try simp only [Act.put, nA, nB, nC])
    first | (refine wpList_val (v := ?_) (by rfl) ?_ ?_; rotate_left; focus ((go_simp; (try (first | with_reducible rfl | (constructor <;> with_reducible rfl)))))) | refine wpList_skip (by rfl) ?_
    (try simp only [Act.put, nA, nB, nC])
    first | (refine wpList_val (v := ?_) (by rfl) ?_ ?_; rotate_left; focus ((go_simp; (try (first | with_reducible rfl | (constructor <;> with_reducible rfl)))))) | refine wpList_skip (by rfl) ?_
    (try simp only [Act.put, nA, nB, nC])
    first | (refine wpList_val (v := ?_) (by rfl) ?_ ?_; rotate_left; focus ((go_simp; (try (first | with_reducible rfl | (constructor <;> with_reducible rfl)))))) | refine wpList_skip (by rfl) ?_
    (try simp only [Act.put, nA, nB, nC])
    first | (refine wpList_val (v := ?_) (by rfl) ?_ ?_; rotate_left; focus ((go_simp; (try (first | with_reducible rfl | (constructor <;> with_reducible rfl)))))) | refine wpList_skip (by rfl) ?_
    (try simp only [Act.put, nA, nB, nC])
    first | (refine wpList_val (v := ?_) (by rfl) ?_ ?_; rotate_left; focus ((go_simp; (try (first | with_reducible rfl | (constructor <;> with_reducible rfl)))))) | refine wpList_skip (by rfl) ?_
    (try simp only [Act.put, nA, nB, nC])
    refine wpList_val (v := ?_) rfl ?_ ?_
    rotate_left
    · (go_simp; (try (first | with_reducible rfl | (constructor <;> with_reducible rfl))))
    (try simp only [Act.put, nA, nB, nC])
    refine wpList_val (v := ?_) rfl ?_ ?_
    rotate_left
    · (go_simp; (try (first | with_reducible rfl | (constructor <;> with_reducible rfl))))
    (try simp only [Act.put, nA, nB, nC])
    refine wpList_nil ?_
    go_wp2_with fail
    go_ret
    exact ⟨rfl, KB.out⟩
end Go.Proofs.Ytpbgglkopfjagaa
