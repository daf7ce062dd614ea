/- Contracts of the program's functions and plain laws, part 18: they hold for all arguments. -/
import Derived.Test.YtpoiobgpggiebaaQ17
import Derived.Test.YtpoiobgpggiebaaQ14
import Derived.Test.YtpoiobgpggiebaaQ11
import Derived.Test.YtpoiobgpggiebaaQ15
import Derived.Test.YtpoiobgpggiebaaQ06
/- What the closures of Correct and Shift find; Correct's closure. -/
namespace Go.Proofs.Ytpoiobgpggiebaa
open Go.RowKit
open Go
set_option maxRecDepth 100000
structure CoC (c : Addr) (bc dvb bp dpb tb pb : Nat) (g : Int) (DV DP TU : Nat → Int) (w : World) : Prop where
  cc : w.cell? ⟨bc, 0, none⟩ = some (.pointer (some c))
  dv : Blk w dvb 43 3 DV
  pc : w.cell? ⟨bp, 0, none⟩ = some (.pointer (some ⟨pb, 0, none⟩))
  gc : w.cell? ⟨pb, 1, none⟩ = some (.int .i64 g)
  dp : Blk w dpb 43 3 DP
  tu : Blk w tb 42 4 TU
  ne : ∀ b, b ∈ [bc, dvb, bp, dpb, tb, pb] → b ≠ c.block ∧ b < w.heap.size
section
variable {c : Addr} {bc dvb bp dpb tb pb : Nat} {g : Int} {DV DP TU : Nat → Int} {w w' : World}
theorem CoC.kept (s : CoC c bc dvb bp dpb tb pb g DV DP TU w) (hz : w.heap.size ≤ w'.heap.size) (e : ∀ b, b ∈ [bc, dvb, bp, dpb, tb, pb] → w'.heap[b]? = w.heap[b]?) : CoC c bc dvb bp dpb tb pb g DV DP TU w' :=
  ⟨(World.cell?_of_block (e bc (by simp))).trans s.cc, (e dvb (by simp)).trans s.dv, (World.cell?_of_block (e bp (by simp))).trans s.pc, (World.cell?_of_block (e pb (by simp))).trans s.gc, (e dpb (by simp)).trans s.dp, (e tb (by simp)).trans s.tu, fun b hb => ⟨(s.ne b hb).1, Nat.lt_of_lt_of_le (s.ne b hb).2 hz⟩⟩
theorem CoC.below (s : CoC c bc dvb bp dpb tb pb g DV DP TU w) (b : Below w.heap.size w w') : CoC c bc dvb bp dpb tb pb g DV DP TU w' := s.kept b.size fun k hk => b.block k (s.ne k hk).2
theorem CoC.upd {h : Bool} (s : CoC c bc dvb bp dpb tb pb g DV DP TU w) (u : Upd c h w w') : CoC c bc dvb bp dpb tb pb g DV DP TU w' := s.kept u.size fun k hk => u.block (s.ne k hk).2 (s.ne k hk).1
theorem CoC.drew (s : CoC c bc dvb bp dpb tb pb g DV DP TU w) : CoC c bc dvb bp dpb tb pb g DV DP TU w.drew := s.below (Below.drew (Below.refl _ _))
/-- A row of the call's own is written. -/
theorem CoC.row {w0 : World} {b : Nat} (s0 : CoC c bc dvb bp dpb tb pb g DV DP TU w0) (s : CoC c bc dvb bp dpb tb pb g DV DP TU w) (hb : w0.heap.size ≤ b) (cs : Array Value) : CoC c bc dvb bp dpb tb pb g DV DP TU (w.setRow b cs) :=
  s.kept (by rw [setRow_size]; exact Nat.le_refl _) fun k hk => Go.setRow_other w b k cs (by have := (s0.ne k hk).2; omega)
end
/-- What the closure makes of an output. -/
def coV (O DV : Nat → Int) (g : Int) (o : Nat) : Nat → Nat → Int := v2L (fun i => O (o + i)) (fun i => mulV (DV i) g 30)
def coF (g : Int) (DV DP TU O : Nat → Int) : Nat → Int :=
  let O1 := putF O 5 3 (vaV (coV O DV g 5) 2)
  let O2 := putF O1 8 3 (vaV (coV O1 DP g 8) 2)
  putF O2 1 4 (uniV (qmV TU (fun i => O2 (1 + i))))
def coH (g : Int) (DV DP TU O : Nat → Int) : Bool :=
  let O1 := putF O 5 3 (vaV (coV O DV g 5) 2)
  let O2 := putF O1 8 3 (vaV (coV O1 DP g 8) 2)
  orB (fun i => mulH (DV i) g 30) 3 || orB (vaH (coV O DV g 5) 2) 3 || orB (fun i => mulH (DP i) g 30) 3 || orB (vaH (coV O1 DP g 8) 2) 3 || qmH TU (fun i => O2 (1 + i)) || uniH (qmV TU (fun i => O2 (1 + i)))
theorem vls6 {w : World} {b : Nat} {L : Nat → Nat → Int} (h : Blk w b 43 6 (sideV L)) : VLs w b 0 2 L := vls_of h
set_option maxHeartbeats 8000000 in
theorem coclo_any (c : Addr) (h : Bool) (bc dvb bp dpb tb pb : Nat) (g : Int) (DV DP TU O : Nat → Int) (w : World) (hc : w.cell? c = some (.bool h)) (hf : w.frozen? c = false) (hk : CoC c bc dvb bp dpb tb pb g DV DP TU w) :
    Calls Try.prog 33 #[.agg (arrv 11 O), .pointer (some ⟨bc, 0, none⟩), .pointer (some ⟨dvb, 0, none⟩), .pointer (some ⟨bp, 0, none⟩), .pointer (some ⟨dpb, 0, none⟩), .pointer (some ⟨tb, 0, none⟩)] w fun e w' => e = .returned (.agg (arrv 11 (coF g DV DP TU O))) ∧ Upd c (h || coH g DV DP TU O) w w' := by
  have L0 := Lib.hid (show LsR c h [⟨w.heap.size, 49, 11, O⟩, ⟨w.heap.size + 1, 49, 11, fun _ => 0⟩] (w.heap.size + 1 + 1) w ((w.alloc (.cells (arrv 11 O) 49)).alloc (.cells #[.int .i64 0, .int .i64 0, .int .i64 0, .int .i64 0, .int .i64 0, .int .i64 0, .int .i64 0, .int .i64 0, .int .i64 0, .int .i64 0, .int .i64 0] 49)) by
    rw [zou]
    have := ((ls_nil hc hf).lay 49 11 O).lay 49 11 (fun _ => 0)
    simp at this
    exact this.sub (by simp))
  have C0 := Lib.hid hk
  have K0 := Lib.hid (hk.below (by (repeat (first | with_reducible exact Below.refl _ _ | with_reducible apply Below.drew | (with_reducible refine below_drewN ?_ _) | (with_reducible refine Below.alloc ?_ (by (try simp) <;> omega) _) | (with_reducible refine Below.setCell ?_ (by (try simp) <;> omega) _))) : Below w.heap.size w ((w.alloc (.cells (arrv 11 O) 49)).alloc (.cells #[.int .i64 0, .int .i64 0, .int .i64 0, .int .i64 0, .int .i64 0, .int .i64 0, .int .i64 0, .int .i64 0, .int .i64 0, .int .i64 0, .int .i64 0] 49))))
  clear hc hf hk
  obtain ⟨V1, hV1⟩ : ∃ x, vaV (coV O DV g 5) 2 = x := ⟨_, rfl⟩
  obtain ⟨O1, hO1⟩ : ∃ x, putF O 5 3 V1 = x := ⟨_, rfl⟩
  obtain ⟨V2, hV2⟩ : ∃ x, vaV (coV O1 DP g 8) 2 = x := ⟨_, rfl⟩
  obtain ⟨O2, hO2⟩ : ∃ x, putF O1 8 3 V2 = x := ⟨_, rfl⟩
  obtain ⟨QM, hQM⟩ : ∃ x, qmV TU (fun i => O2 (1 + i)) = x := ⟨_, rfl⟩
  obtain ⟨QU, hQU⟩ : ∃ x, uniV QM = x := ⟨_, rfl⟩
  obtain ⟨Ha, hHa⟩ : ∃ x, (h || orB (fun i => mulH (DV i) g 30) 3) = x := ⟨_, rfl⟩
  obtain ⟨Hb, hHb⟩ : ∃ x, (Ha || orB (vaH (coV O DV g 5) 2) 3) = x := ⟨_, rfl⟩
  obtain ⟨Hc, hHc⟩ : ∃ x, (Hb || orB (fun i => mulH (DP i) g 30) 3) = x := ⟨_, rfl⟩
  obtain ⟨Hd, hHd⟩ : ∃ x, (Hc || orB (vaH (coV O1 DP g 8) 2) 3) = x := ⟨_, rfl⟩
  obtain ⟨He, hHe⟩ : ∃ x, (Hd || qmH TU (fun i => O2 (1 + i))) = x := ⟨_, rfl⟩
  obtain ⟨Hf, hHf⟩ : ∃ x, (He || uniH QM) = x := ⟨_, rfl⟩
  have HZ : coF g DV DP TU O = putF O2 1 4 QU ∧ (h || coH g DV DP TU O) = Hf := by
    constructor
    · unfold coF; simp only [hV1, hO1, hV2, hO2, hQM, hQU]
    · rw [← hHf, ← hHe, ← hHd, ← hHc, ← hHb, ← hHa]
      unfold coH; simp only [hV1, hO1, hV2, hO2, hQM, Bool.or_assoc]
  rw [HZ.1, HZ.2]
  have N1 := Lib.hid (And.intro hV1 hO1)
  have N2 := Lib.hid (And.intro hV2 hO2)
  have N3 := Lib.hid (And.intro hQM hQU)
  have M1 := Lib.hid (And.intro hHa hHb)
  have M2 := Lib.hid (And.intro hHc hHd)
  have M3 := Lib.hid (And.intro hHe hHf)
  clear hV1 hO1 hV2 hO2 hQM hQU hHa hHb hHc hHd hHe hHf HZ
  go_enter Try.func33, Try.ntmps33
  go_upto_region 1 with fail
  generalize (w.alloc (.cells (arrv 11 O) 49)).alloc (.cells #[.int .i64 0, .int .i64 0, .int .i64 0, .int .i64 0, .int .i64 0, .int .i64 0, .int .i64 0, .int .i64 0, .int .i64 0, .int .i64 0, .int .i64 0] 49) = W0 at *
  have HS := Lib.hid L0.out.drew
  have HK := Lib.hid K0.out.drew
  clear L0 K0
  (try simp only [Act.put])
  go_cut [] from 8 to 21 (fun wx => Hid (LsR c Hb [⟨w.heap.size, 49, 11, O1⟩, ⟨w.heap.size + 1, 49, 11, fun _ => 0⟩] (w.heap.size + 1 + 1) w wx) ∧ Hid (CoC c bc dvb bp dpb tb pb g DV DP TU wx))
  case first =>
    refine wp_region_M (fun w' => Blk w' w.heap.size 49 11 O ∧ CoC c bc dvb bp dpb tb pb g DV DP TU w') 13 (by kernel_rfl) ?_ (fun hHeld => ?_)
    · exact ⟨HS.out.e0, HK.out⟩
    refine wpAnyM_take 0 (v := ?_) rfl (by kernel_rfl) (fun _ _ _ h => h) (Or.inl ⟨by rfl, ?_⟩) (by assumption) ?_
    rotate_left
    · (intro wx hSw; have q := hSw.2.cc; go_simp; with_reducible rfl)
    (try simp only [Act.put, nA, nB, nC])
    refine wpAnyM_take 1 (v := ?_) rfl (by kernel_rfl) (fun _ _ _ h => h) (Or.inl ⟨by rfl, ?_⟩) (by assumption) ?_
    rotate_left
    · (intro wx hSw; (try dsimp only at hSw); go_simp; (try with_reducible rfl))
    (try simp only [Act.put, nA, nB, nC])
    refine wpAnyM_take 2 (v := ?_) rfl (by kernel_rfl) (fun _ _ _ h => h) (Or.inl ⟨by rfl, ?_⟩) (by assumption) ?_
    rotate_left
    · (intro wx hSw; refine Eq.trans (run_load_sub 43 (.tmp 9) (by rfl) w.heap.size 5 3 (by rfl) hSw.1 (by decide) _ Try.underlying43 rfl iv3) ?_; with_reducible rfl)
    (try simp only [Act.put, nA, nB, nC])
    refine wpAnyM_take 3 (v := ?_) rfl (by kernel_rfl) (fun _ _ _ h => h) (Or.inl ⟨by rfl, ?_⟩) (by assumption) ?_
    rotate_left
    · (intro wx hSw; have q := hSw.2.cc; go_simp; with_reducible rfl)
    (try simp only [Act.put, nA, nB, nC])
    refine wpAnyM_take 4 (v := ?_) rfl (by kernel_rfl) (fun _ _ _ h => h) (Or.inl ⟨by rfl, ?_⟩) (by assumption) ?_
    rotate_left
    · (intro wx hSw; refine Eq.trans (run_load_row 43 (.tmp 2) (by rfl) (dvb) (by rfl) _ _ _ _ (hSw.2.dv) Try.underlying43 rfl (iv3.trans (by rw [arrv_size]))) ?_; with_reducible rfl)
    (try simp only [Act.put, nA, nB, nC])
    refine wpAnyM_take 5 (v := ?_) rfl (by kernel_rfl) (fun _ _ _ h => h) (Or.inl ⟨by rfl, ?_⟩) (by assumption) ?_
    rotate_left
    · (intro wx hSw; have q := hSw.2.pc; go_simp; with_reducible rfl)
    (try simp only [Act.put, nA, nB, nC])
    refine wpAnyM_take 6 (v := ?_) rfl (by kernel_rfl) (fun _ _ _ h => h) (Or.inl ⟨by rfl, ?_⟩) (by assumption) ?_
    rotate_left
    · (intro wx hSw; (try dsimp only at hSw); go_simp; (try with_reducible rfl))
    (try simp only [Act.put, nA, nB, nC])
    refine wpAnyM_take 7 (v := ?_) rfl (by kernel_rfl) (fun _ _ _ h => h) (Or.inl ⟨by rfl, ?_⟩) (by assumption) ?_
    rotate_left
    · (intro wx hSw; (try dsimp only at hSw); go_simp; (try with_reducible rfl))
    (try simp only [Act.put, nA, nB, nC])
    refine wpAnyM_take 8 (v := ?_) rfl (by kernel_rfl) (fun _ _ _ h => h) (Or.inl ⟨by rfl, ?_⟩) (by assumption) ?_
    rotate_left
    · (intro wx hSw; have q := hSw.2.gc; go_simp; with_reducible rfl)
    (try simp only [Act.put, nA, nB, nC])
    refine wpAnyM_oneS 9 rfl (by kernel_rfl) (fun K hK => ?_)
    go_simp
    (refine (vscale_any c h DV g _ HS.out.cell HS.out.free).mono ?_); (rw [M1.out.1]); rintro e w3 ⟨rfl, hu⟩; have HS2 := Lib.hid (HS.out.upd' hu); have HK2 := Lib.hid (HK.out.upd hu); clear HS HK hu; have HS := HS2; have HK := HK2; clear HS2 HK2
    (try dsimp only)
    (try simp only [Act.put, nA, nB, nC])
    clear hHeld
    refine hK.out _ _ ?_ (fun hHeld => ?_)
    · exact ⟨HS.out.e0, HK.out⟩
    clear hK K
    (try simp only [Act.put, nA, nB, nC])
    refine wpAnyM_oneS 10 rfl (by kernel_rfl) (fun K hK => ?_)
    refine if_pos_of (by rfl) (wp_bslv2 (.tmp 10) (.tmp 17) rfl rfl rfl ?_); have HL := Lib.hid (vls6 (Blk.new w3 43 6 (sideV (coV O DV g 5)))); have HS2 := Lib.hid (HS.out.alloc (.cells (arrv 6 (sideV (coV O DV g 5))) 43)); have HK2 := Lib.hid (HK.out.below ((Below.refl _ _).alloc (Nat.le_refl _) (.cells (arrv 6 (sideV (coV O DV g 5))) 43))); clear HS HK; have HS := HS2; have HK := HK2; clear HS2 HK2
    clear hHeld
    refine hK.out _ _ ?_ (fun hHeld => ?_)
    · exact ⟨HS.out.e0, HK.out⟩
    clear hK K
    (try simp only [Act.put, nA, nB, nC])
    refine wpAnyM_oneS 11 rfl (by kernel_rfl) (fun K hK => ?_)
    go_simp
    (refine (vadd_any c Ha _ 0 2 2 (coV O DV g 5) _ HS.out.cell HS.out.free (by decide) (by decide) HL.out).mono ?_); (rw [M1.out.2, N1.out.1]); rintro e w4 ⟨rfl, hu⟩; have HS2 := Lib.hid (HS.out.upd' hu); have HK2 := Lib.hid (HK.out.upd hu); clear HS HK hu HL; have HS := HS2; have HK := HK2; clear HS2 HK2
    (try dsimp only)
    (try simp only [Act.put, nA, nB, nC])
    clear hHeld
    refine hK.out _ _ ?_ (fun hHeld => ?_)
    · exact ⟨HS.out.e0, HK.out⟩
    clear hK K
    (try simp only [Act.put, nA, nB, nC])
    refine wpAnyM_take 12 (v := ?_) rfl (by kernel_rfl) (fun _ _ _ h => h) (Or.inl ⟨by rfl, ?_⟩) (by assumption) ?_
    rotate_left
    · (intro wx hSw; (try dsimp only at hSw); go_simp; (try with_reducible rfl))
    (try simp only [Act.put, nA, nB, nC])
    refine wpAnyM_doneL 13 rfl (by kernel_rfl) (by rfl) (by kernel_rfl) (run_store_sub 43 (.tmp 20) (.tmp 19) rfl w.heap.size 5 rfl rfl HS.out.e0 (by decide) iv3) ?_
    (try simp only [Act.put, nA, nB, nC])
    refine wpAnyM_done (by kernel_rfl) ?_ _
    (rw [N1.out.2]; have HE := Lib.hid (HS.out.row (by simp) O1); have HQ := Lib.hid (C0.out.row HK.out (Nat.le_refl _) (arrv 11 O1)); go_wp2_with fail; go_meet; exact ⟨HE, HQ⟩)
  case rest =>
  obtain ⟨HB, KB⟩ := hcut
  clear HS HK
  go_upto_region 2 with fail
  have HS := Lib.hid HB.out.drew
  have HK := Lib.hid KB.out.drew
  clear HB KB
  (try simp only [Act.put])
  go_cut [] from 21 to 34 (fun wx => Hid (LsR c Hd [⟨w.heap.size, 49, 11, O2⟩, ⟨w.heap.size + 1, 49, 11, fun _ => 0⟩] (w.heap.size + 1 + 1) w wx) ∧ Hid (CoC c bc dvb bp dpb tb pb g DV DP TU wx))
  case first =>
    refine wp_region_M (fun w' => Blk w' w.heap.size 49 11 O1 ∧ CoC c bc dvb bp dpb tb pb g DV DP TU w') 13 (by kernel_rfl) ?_ (fun hHeld => ?_)
    · exact ⟨HS.out.e0, HK.out⟩
    refine wpAnyM_take 0 (v := ?_) rfl (by kernel_rfl) (fun _ _ _ h => h) (Or.inl ⟨by rfl, ?_⟩) (by assumption) ?_
    rotate_left
    · (intro wx hSw; have q := hSw.2.cc; go_simp; with_reducible rfl)
    (try simp only [Act.put, nA, nB, nC])
    refine wpAnyM_take 1 (v := ?_) rfl (by kernel_rfl) (fun _ _ _ h => h) (Or.inl ⟨by rfl, ?_⟩) (by assumption) ?_
    rotate_left
    · (intro wx hSw; (try dsimp only at hSw); go_simp; (try with_reducible rfl))
    (try simp only [Act.put, nA, nB, nC])
    refine wpAnyM_take 2 (v := ?_) rfl (by kernel_rfl) (fun _ _ _ h => h) (Or.inl ⟨by rfl, ?_⟩) (by assumption) ?_
    rotate_left
    · (intro wx hSw; refine Eq.trans (run_load_sub 43 (.tmp 22) (by rfl) w.heap.size 8 3 (by rfl) hSw.1 (by decide) _ Try.underlying43 rfl iv3) ?_; with_reducible rfl)
    (try simp only [Act.put, nA, nB, nC])
    refine wpAnyM_take 3 (v := ?_) rfl (by kernel_rfl) (fun _ _ _ h => h) (Or.inl ⟨by rfl, ?_⟩) (by assumption) ?_
    rotate_left
    · (intro wx hSw; have q := hSw.2.cc; go_simp; with_reducible rfl)
    (try simp only [Act.put, nA, nB, nC])
    refine wpAnyM_take 4 (v := ?_) rfl (by kernel_rfl) (fun _ _ _ h => h) (Or.inl ⟨by rfl, ?_⟩) (by assumption) ?_
    rotate_left
    · (intro wx hSw; refine Eq.trans (run_load_row 43 (.tmp 4) (by rfl) (dpb) (by rfl) _ _ _ _ (hSw.2.dp) Try.underlying43 rfl (iv3.trans (by rw [arrv_size]))) ?_; with_reducible rfl)
    (try simp only [Act.put, nA, nB, nC])
    refine wpAnyM_take 5 (v := ?_) rfl (by kernel_rfl) (fun _ _ _ h => h) (Or.inl ⟨by rfl, ?_⟩) (by assumption) ?_
    rotate_left
    · (intro wx hSw; have q := hSw.2.pc; go_simp; with_reducible rfl)
    (try simp only [Act.put, nA, nB, nC])
    refine wpAnyM_take 6 (v := ?_) rfl (by kernel_rfl) (fun _ _ _ h => h) (Or.inl ⟨by rfl, ?_⟩) (by assumption) ?_
    rotate_left
    · (intro wx hSw; (try dsimp only at hSw); go_simp; (try with_reducible rfl))
    (try simp only [Act.put, nA, nB, nC])
    refine wpAnyM_take 7 (v := ?_) rfl (by kernel_rfl) (fun _ _ _ h => h) (Or.inl ⟨by rfl, ?_⟩) (by assumption) ?_
    rotate_left
    · (intro wx hSw; (try dsimp only at hSw); go_simp; (try with_reducible rfl))
    (try simp only [Act.put, nA, nB, nC])
    refine wpAnyM_take 8 (v := ?_) rfl (by kernel_rfl) (fun _ _ _ h => h) (Or.inl ⟨by rfl, ?_⟩) (by assumption) ?_
    rotate_left
    · (intro wx hSw; have q := hSw.2.gc; go_simp; with_reducible rfl)
    (try simp only [Act.put, nA, nB, nC])
    refine wpAnyM_oneS 9 rfl (by kernel_rfl) (fun K hK => ?_)
    go_simp
    (refine (vscale_any c Hb DP g _ HS.out.cell HS.out.free).mono ?_); (rw [M2.out.1]); rintro e w3 ⟨rfl, hu⟩; have HS2 := Lib.hid (HS.out.upd' hu); have HK2 := Lib.hid (HK.out.upd hu); clear HS HK hu; have HS := HS2; have HK := HK2; clear HS2 HK2
    (try dsimp only)
    (try simp only [Act.put, nA, nB, nC])
    clear hHeld
    refine hK.out _ _ ?_ (fun hHeld => ?_)
    · exact ⟨HS.out.e0, HK.out⟩
    clear hK K
    (try simp only [Act.put, nA, nB, nC])
    refine wpAnyM_oneS 10 rfl (by kernel_rfl) (fun K hK => ?_)
    refine if_pos_of (by rfl) (wp_bslv2 (.tmp 23) (.tmp 30) rfl rfl rfl ?_); have HL := Lib.hid (vls6 (Blk.new w3 43 6 (sideV (coV O1 DP g 8)))); have HS2 := Lib.hid (HS.out.alloc (.cells (arrv 6 (sideV (coV O1 DP g 8))) 43)); have HK2 := Lib.hid (HK.out.below ((Below.refl _ _).alloc (Nat.le_refl _) (.cells (arrv 6 (sideV (coV O1 DP g 8))) 43))); clear HS HK; have HS := HS2; have HK := HK2; clear HS2 HK2
    clear hHeld
    refine hK.out _ _ ?_ (fun hHeld => ?_)
    · exact ⟨HS.out.e0, HK.out⟩
    clear hK K
    (try simp only [Act.put, nA, nB, nC])
    refine wpAnyM_oneS 11 rfl (by kernel_rfl) (fun K hK => ?_)
    go_simp
    (refine (vadd_any c Hc _ 0 2 2 (coV O1 DP g 8) _ HS.out.cell HS.out.free (by decide) (by decide) HL.out).mono ?_); (rw [M2.out.2, N2.out.1]); rintro e w4 ⟨rfl, hu⟩; have HS2 := Lib.hid (HS.out.upd' hu); have HK2 := Lib.hid (HK.out.upd hu); clear HS HK hu HL; have HS := HS2; have HK := HK2; clear HS2 HK2
    (try dsimp only)
    (try simp only [Act.put, nA, nB, nC])
    clear hHeld
    refine hK.out _ _ ?_ (fun hHeld => ?_)
    · exact ⟨HS.out.e0, HK.out⟩
    clear hK K
    (try simp only [Act.put, nA, nB, nC])
    refine wpAnyM_take 12 (v := ?_) rfl (by kernel_rfl) (fun _ _ _ h => h) (Or.inl ⟨by rfl, ?_⟩) (by assumption) ?_
    rotate_left
    · (intro wx hSw; (try dsimp only at hSw); go_simp; (try with_reducible rfl))
    (try simp only [Act.put, nA, nB, nC])
    refine wpAnyM_doneL 13 rfl (by kernel_rfl) (by rfl) (by kernel_rfl) (run_store_sub 43 (.tmp 33) (.tmp 32) rfl w.heap.size 8 rfl rfl HS.out.e0 (by decide) iv3) ?_
    (try simp only [Act.put, nA, nB, nC])
    refine wpAnyM_done (by kernel_rfl) ?_ _
    (rw [N2.out.2]; have HE := Lib.hid (HS.out.row (by simp) O2); have HQ := Lib.hid (C0.out.row HK.out (Nat.le_refl _) (arrv 11 O2)); go_wp2_with fail; go_meet; exact ⟨HE, HQ⟩)
  case rest =>
  obtain ⟨HB, KB⟩ := hcut
  clear HS HK
  go_upto_region 3 with fail
  have HS := Lib.hid HB.out.drew
  have HK := Lib.hid KB.out.drew
  clear HB KB
  (try simp only [Act.put])
  go_cut [] from 34 to 42 (fun wx => Hid (LsR c Hf [⟨w.heap.size, 49, 11, putF O2 1 4 QU⟩, ⟨w.heap.size + 1, 49, 11, fun _ => 0⟩] (w.heap.size + 1 + 1) w wx))
  case first =>
    refine wp_region_M (fun w' => Blk w' w.heap.size 49 11 O2 ∧ CoC c bc dvb bp dpb tb pb g DV DP TU w') 8 (by kernel_rfl) ?_ (fun hHeld => ?_)
    · exact ⟨HS.out.e0, HK.out⟩
    refine wpAnyM_take 0 (v := ?_) rfl (by kernel_rfl) (fun _ _ _ h => h) (Or.inl ⟨by rfl, ?_⟩) (by assumption) ?_
    rotate_left
    · (intro wx hSw; have q := hSw.2.cc; go_simp; with_reducible rfl)
    (try simp only [Act.put, nA, nB, nC])
    refine wpAnyM_take 1 (v := ?_) rfl (by kernel_rfl) (fun _ _ _ h => h) (Or.inl ⟨by rfl, ?_⟩) (by assumption) ?_
    rotate_left
    · (intro wx hSw; have q := hSw.2.cc; go_simp; with_reducible rfl)
    (try simp only [Act.put, nA, nB, nC])
    refine wpAnyM_take 2 (v := ?_) rfl (by kernel_rfl) (fun _ _ _ h => h) (Or.inl ⟨by rfl, ?_⟩) (by assumption) ?_
    rotate_left
    · (intro wx hSw; refine Eq.trans (run_load_row 42 (.tmp 5) (by rfl) (tb) (by rfl) _ _ _ _ (hSw.2.tu) Try.underlying42 rfl (iqt.trans (by rw [arrv_size]))) ?_; with_reducible rfl)
    (try simp only [Act.put, nA, nB, nC])
    refine wpAnyM_take 3 (v := ?_) rfl (by kernel_rfl) (fun _ _ _ h => h) (Or.inl ⟨by rfl, ?_⟩) (by assumption) ?_
    rotate_left
    · (intro wx hSw; (try dsimp only at hSw); go_simp; (try with_reducible rfl))
    (try simp only [Act.put, nA, nB, nC])
    refine wpAnyM_take 4 (v := ?_) rfl (by kernel_rfl) (fun _ _ _ h => h) (Or.inl ⟨by rfl, ?_⟩) (by assumption) ?_
    rotate_left
    · (intro wx hSw; refine Eq.trans (run_load_sub 42 (.tmp 37) (by rfl) w.heap.size 1 4 (by rfl) hSw.1 (by decide) _ Try.underlying42 rfl iqt) ?_; with_reducible rfl)
    (try simp only [Act.put, nA, nB, nC])
    refine wpAnyM_oneS 5 rfl (by kernel_rfl) (fun K hK => ?_)
    go_simp
    (refine (qmul_any c Hd TU (fun i => O2 (1 + i)) _ HS.out.cell HS.out.free).mono ?_); (rw [M3.out.1, N3.out.1]); rintro e w3 ⟨rfl, hu⟩; have HS2 := Lib.hid (HS.out.upd' hu); have HK2 := Lib.hid (HK.out.upd hu); clear HS HK hu; have HS := HS2; have HK := HK2; clear HS2 HK2
    (try dsimp only)
    (try simp only [Act.put, nA, nB, nC])
    clear hHeld
    refine hK.out _ _ ?_ (fun hHeld => ?_)
    · exact ⟨HS.out.e0, HK.out⟩
    clear hK K
    (try simp only [Act.put, nA, nB, nC])
    refine wpAnyM_oneS 6 rfl (by kernel_rfl) (fun K hK => ?_)
    go_simp
    (refine (qunit_any c He QM _ HS.out.cell HS.out.free).mono ?_); (rw [M3.out.2, N3.out.2]); rintro e w4 ⟨rfl, hu⟩; have HS2 := Lib.hid (HS.out.upd' hu); have HK2 := Lib.hid (HK.out.upd hu); clear HS HK hu; have HS := HS2; have HK := HK2; clear HS2 HK2
    (try dsimp only)
    (try simp only [Act.put, nA, nB, nC])
    clear hHeld
    refine hK.out _ _ ?_ (fun hHeld => ?_)
    · exact ⟨HS.out.e0, HK.out⟩
    clear hK K
    (try simp only [Act.put, nA, nB, nC])
    refine wpAnyM_take 7 (v := ?_) rfl (by kernel_rfl) (fun _ _ _ h => h) (Or.inl ⟨by rfl, ?_⟩) (by assumption) ?_
    rotate_left
    · (intro wx hSw; (try dsimp only at hSw); go_simp; (try with_reducible rfl))
    (try simp only [Act.put, nA, nB, nC])
    refine wpAnyM_doneL 8 rfl (by kernel_rfl) (by rfl) (by kernel_rfl) (run_store_sub 42 (.tmp 41) (.tmp 40) rfl w.heap.size 1 rfl rfl HS.out.e0 (by decide) iqt) ?_
    (try simp only [Act.put, nA, nB, nC])
    refine wpAnyM_done (by kernel_rfl) ?_ _
    (have HE := Lib.hid (HS.out.row (by simp) (putF O2 1 4 QU)); go_wp2_with fail; go_meet; exact HE)
  case rest =>
  clear HS HK
  have T0 := hcut.out.e0
  go_upto_region 4 with fail
  refine wp_region_lit ?_
  refine wpList_val (v := ?_) rfl ?_ ?_
  rotate_left
  · (refine Eq.trans (run_load_row 49 (.tmp 6) (by rfl) (w.heap.size) (by rfl) _ _ _ _ T0 Try.underlying49 rfl (iou.trans (by rw [arrv_size]))) ?_; with_reducible rfl)
  (try simp only [Act.put, nA, nB, nC])
  refine wpList_done (w' := ?_) rfl ?_ ?_
  rotate_left
  · (refine Eq.trans (run_store_row 49 (.tmp 7) (.tmp 42) (by rfl) (w.heap.size + 1) (by rfl) (by rfl) (hcut.out.e1) (iou.trans rfl)) ?_; with_reducible rfl)
  (try simp only [Act.put, nA, nB, nC])
  refine wpList_nil ?_
  have HE := Lib.hid ((hcut.out.sub (E' := [⟨w.heap.size + 1, 49, 11, fun _ => 0⟩]) (by simp)).row (by simp) (putF O2 1 4 QU))
  generalize wc.setRow (w.heap.size + 1) (arrv 11 (putF O2 1 4 QU)) = W5 at *
  go_wp2_with fail
  refine bodyPost_ret (results_cell_row Try.results33 _ _ (w.heap.size + 1) 49 (arrv 11 _) (0, 0) _ rfl HE.out.e0 Try.underlying49 rfl (iou.trans (by rw [arrv_size]))) rfl ⟨rfl, HE.out.upd⟩
end Go.Proofs.Ytpoiobgpggiebaa
/- A store in a region that draws, by its run, where others come behind. -/
namespace Go.Proofs.Ytpoiobgpggiebaa
open Go.RowKit
set_option maxRecDepth 100000
open Go in
/-- An operation that changes the world and gives nothing (a store), by its run: the walk's goal is never looked into. -/
theorem wpAnyM_doneS {P : Program} {ops : Array Oper} {Q : Exit → Act → World → Prop} {md : Region.Mode} {L : Nat} {S : World → Prop} (i : Nat) {o : Oper} {fuel : Nat} {listed : Array Bool} {a : Act} {w w' : World} (ho : ops.toList[i]? = some o) (hr : Region.ready md ops listed = [i])
    (hw : Region.wanted o (yielded ops a.tmps) = true) (hy : (execOp a.eval o).run P w = .ok .skip w') (hS : S w') (h : S w' → wpAnyM P md ops Q S L fuel (listed.setIfInBounds i true) (a.put o.dst undef) w') :
    wpAnyM P md ops Q S L (fuel + 1) listed a w :=
  wpAnyM_oneS i ho hr fun K hK => by
    rw [if_pos hw]
    exact wp_of_run hy (hK.out _ _ hS h)
end Go.Proofs.Ytpoiobgpggiebaa
/- A region that draws its order, where several operations may come first: the orders that have done the same set of operations are walked once from there ('share'). -/
namespace Go.Proofs.Ytpoiobgpggiebaa
open Go
/-- What is asked at several places, shown once: T is found at the first of them. -/
inductive Shr (T : Prop) : Prop where
  | mk (out : T) : Shr T
theorem Shr.out {T : Prop} : Shr T → T := fun ⟨h⟩ => h
theorem share {T G : Prop} (h : Shr T → G) (p : T) : G := h ⟨p⟩
end Go.Proofs.Ytpoiobgpggiebaa
/- Shift's closure, of a jump without a turn. -/
namespace Go.Proofs.Ytpoiobgpggiebaa
open Go.RowKit
open Go
set_option maxRecDepth 100000
theorem run_op_neqVec {n : Nat} {T : TypeId} (hT : Try.prog.underlying T = some (.array n 2)) (hG : Try.prog.eqGuardType Try.prog.depth T = false) {o : Oper} {ev : Operand → Value} {w : World} (x y : Operand) (ho : o.op = .binOp .neq T x y T) {f g : Nat → Int} (hx : ev x = .agg (arrv n f)) (hy : ev y = .agg (arrv n g)) {b : Bool} (hb : eqB n f g = b) :
    (execOp ev o).run Try.prog w = .ok (.value (.bool (!b))) w := by
  have h : (Try.prog.info? 2).map (·.size) = some 1 := by kernel_rfl
  obtain ⟨i, h2, s2⟩ : ∃ i, Try.prog.info? 2 = some i ∧ i.size = 1 := by
    cases e : Try.prog.info? 2 with
    | none => rw [e] at h; cases h
    | some i => rw [e] at h; exact ⟨i, rfl, by simpa using h⟩
  have e : (Op.equal T (.agg (arrv n f)) (.agg (arrv n g))).run Try.prog w = .ok (eqB n f g) w :=
    run_equalIn_vec (w := w) 9998 hT Try.underlying2 (by simp [Program.cellsOf, h2, s2]) h2 _ _
  unfold execOp
  simp only [ho, hx, hy, eqGuard, binOp, Sem.run_bind, Sem.run_pure, Result.andThen_ok]
  simp [hG, e, hb, go_sem]
theorem wp_of_valo {P : Program} {o : Oper} {a : Act} {w : World} {v : Value} {K : Act → World → Prop} {Q : Exit → Act → World → Prop} (hy : (execOp a.eval o).run P w = .ok (.value v) w) (h : K (a.put o.dst v) w) : Oper.wp P o a w K Q := by
  unfold Oper.wp
  rw [hy]
  exact h
structure ShC (c : Addr) (bc db : Nat) (D : Nat → Int) (w : World) : Prop where
  cc : w.cell? ⟨bc, 0, none⟩ = some (.pointer (some c))
  d : Blk w db 45 10 D
  ne : ∀ b, b ∈ [bc, db] → b ≠ c.block ∧ b < w.heap.size
section
variable {c : Addr} {bc db : Nat} {D : Nat → Int} {w w' : World}
theorem ShC.kept (s : ShC c bc db D w) (hz : w.heap.size ≤ w'.heap.size) (e : ∀ b, b ∈ [bc, db] → w'.heap[b]? = w.heap[b]?) : ShC c bc db D w' :=
  ⟨(World.cell?_of_block (e bc (by simp))).trans s.cc, (e db (by simp)).trans s.d, fun b hb => ⟨(s.ne b hb).1, Nat.lt_of_lt_of_le (s.ne b hb).2 hz⟩⟩
theorem ShC.below (s : ShC c bc db D w) (b : Below w.heap.size w w') : ShC c bc db D w' := s.kept b.size fun k hk => b.block k (s.ne k hk).2
theorem ShC.upd {h : Bool} (s : ShC c bc db D w) (u : Upd c h w w') : ShC c bc db D w' := s.kept u.size fun k hk => u.block (s.ne k hk).2 (s.ne k hk).1
theorem ShC.drew (s : ShC c bc db D w) : ShC c bc db D w.drew := s.below (Below.drew (Below.refl _ _))
theorem ShC.row {w0 : World} {b : Nat} (s0 : ShC c bc db D w0) (s : ShC c bc db D w) (hb : w0.heap.size ≤ b) (cs : Array Value) : ShC c bc db D (w.setRow b cs) :=
  s.kept (by rw [setRow_size]; exact Nat.le_refl _) fun k hk => Go.setRow_other w b k cs (by have := (s0.ne k hk).2; omega)
theorem ls_sl2 {c : Addr} {h : Bool} {E : List Lx} {top : Nat} {w wr : World} (s : LsR c h E top w wr) (L : Nat → Nat → Int) (d : Nat) (e : wr.heap.size = d) :
    LsR c h E top w (wr.alloc (.cells (arrv 6 (sideV L)) 43)) ∧ VLs (wr.alloc (.cells (arrv 6 (sideV L)) 43)) d 0 2 L := by
  subst e; exact ⟨s.alloc _, vls_of (Blk.new wr _ 6 _)⟩
end
/-- What the closure makes of an output, of a jump D without a turn. -/
def shV (O D : Nat → Int) (o p : Nat) : Nat → Nat → Int := v2L (fun i => O (o + i)) (fun i => D (p + i))
def shF (D O : Nat → Int) : Nat → Int := putF (putF O 5 3 (vaV (shV O D 5 4) 2)) 8 3 (vaV (shV O D 8 7) 2)
def shH (D O : Nat → Int) : Bool := orB (vaH (shV O D 5 4) 2) 3 || orB (vaH (shV O D 8 7) 2) 3
theorem eqB_one (D : Nat → Int) (h : ∀ i, i < 4 → D i = oneQ i) : eqB 4 (fun i => D (0 + i)) oneQ = true := eqB_iff.2 fun i hi => by rw [Nat.zero_add]; exact h i hi
set_option maxHeartbeats 8000000 in
theorem shclo_any (c : Addr) (h : Bool) (bc db : Nat) (D O : Nat → Int) (hD : ∀ i, i < 4 → D i = oneQ i) (w : World) (hc : w.cell? c = some (.bool h)) (hf : w.frozen? c = false) (hk : ShC c bc db D w) :
    Calls Try.prog 35 #[.agg (arrv 11 O), .pointer (some ⟨bc, 0, none⟩), .pointer (some ⟨db, 0, none⟩)] w fun e w' => e = .returned (.agg (arrv 11 (shF D O))) ∧ Upd c (h || shH D O) w w' := by
  have L0 := Lib.hid (show LsR c h [⟨w.heap.size, 49, 11, O⟩, ⟨w.heap.size + 1, 49, 11, fun _ => 0⟩] (w.heap.size + 1 + 1) w ((w.alloc (.cells (arrv 11 O) 49)).alloc (.cells #[.int .i64 0, .int .i64 0, .int .i64 0, .int .i64 0, .int .i64 0, .int .i64 0, .int .i64 0, .int .i64 0, .int .i64 0, .int .i64 0, .int .i64 0] 49)) by
    rw [zou]
    have := ((ls_nil hc hf).lay 49 11 O).lay 49 11 (fun _ => 0)
    simp at this
    exact this.sub (by simp))
  have C0 := Lib.hid hk
  have K0 := Lib.hid (hk.below (by (repeat (first | with_reducible exact Below.refl _ _ | with_reducible apply Below.drew | (with_reducible refine below_drewN ?_ _) | (with_reducible refine Below.alloc ?_ (by (try simp) <;> omega) _) | (with_reducible refine Below.setCell ?_ (by (try simp) <;> omega) _))) : Below w.heap.size w ((w.alloc (.cells (arrv 11 O) 49)).alloc (.cells #[.int .i64 0, .int .i64 0, .int .i64 0, .int .i64 0, .int .i64 0, .int .i64 0, .int .i64 0, .int .i64 0, .int .i64 0, .int .i64 0, .int .i64 0] 49))))
  have E1 := Lib.hid (eqB_one D hD)
  clear hc hf hk hD
  obtain ⟨V1, hV1⟩ : ∃ x, vaV (shV O D 5 4) 2 = x := ⟨_, rfl⟩
  obtain ⟨V2, hV2⟩ : ∃ x, vaV (shV O D 8 7) 2 = x := ⟨_, rfl⟩
  obtain ⟨Ha, hHa⟩ : ∃ x, (h || orB (vaH (shV O D 5 4) 2) 3) = x := ⟨_, rfl⟩
  obtain ⟨Hb, hHb⟩ : ∃ x, (Ha || orB (vaH (shV O D 8 7) 2) 3) = x := ⟨_, rfl⟩
  have HZ : shF D O = putF (putF O 5 3 V1) 8 3 V2 ∧ (h || shH D O) = Hb := by
    constructor
    · unfold shF; simp only [hV1, hV2]
    · rw [← hHb, ← hHa]; unfold shH; simp only [Bool.or_assoc]
  rw [HZ.1, HZ.2]
  have N1 := Lib.hid (And.intro hV1 hV2)
  have M1 := Lib.hid (And.intro hHa hHb)
  clear hV1 hV2 hHa hHb HZ
  go_enter Try.func35, Try.ntmps35
  go_upto_region 1 with fail
  generalize (w.alloc (.cells (arrv 11 O) 49)).alloc (.cells #[.int .i64 0, .int .i64 0, .int .i64 0, .int .i64 0, .int .i64 0, .int .i64 0, .int .i64 0, .int .i64 0, .int .i64 0, .int .i64 0, .int .i64 0] 49) = W0 at *
  have HS := Lib.hid L0.out.drew
  have HK := Lib.hid K0.out.drew
  clear L0 K0
  (try simp only [Act.put])
  go_cut [] from 5 to 21 (fun wx => Hid (LsR c Hb [⟨w.heap.size, 49, 11, putF (putF O 5 3 V1) 8 3 V2⟩, ⟨w.heap.size + 1, 49, 11, fun _ => 0⟩] (w.heap.size + 1 + 1) w wx) ∧ Hid (ShC c bc db D wx))
  case first =>
    refine wp_region_M (fun w' => Blk w' w.heap.size 49 11 O ∧ ShC c bc db D w') 13 (by kernel_rfl) ?_ (fun hHeld => ?_)
    · exact ⟨HS.out.e0, HK.out⟩
    refine wpAnyM_takeX [6, 13, 14, 15, 16, 17] 0 (v := ?_) rfl (by kernel_rfl) (fun _ _ _ h => h) (Or.inl ⟨by rfl, ?_⟩) (by assumption) ?_
    rotate_left
    · (intro wx hSw; have q := hSw.2.cc; go_simp; with_reducible rfl)
    (try simp only [Act.put, nA, nB, nC])
    refine wpAnyM_takeX [2, 5, 6, 13, 14, 15, 16, 17] 1 (v := ?_) rfl (by kernel_rfl) (fun _ _ _ h => h) (Or.inl ⟨by rfl, ?_⟩) (by assumption) ?_
    rotate_left
    · (intro wx hSw; (try dsimp only at hSw); go_simp; (try with_reducible rfl))
    (try simp only [Act.put, nA, nB, nC])
    refine wpAnyM_takeX [5, 6, 13, 14, 15, 16, 17] 2 (v := ?_) rfl (by kernel_rfl) (fun _ _ _ h => h) (Or.inl ⟨by rfl, ?_⟩) (by assumption) ?_
    rotate_left
    · (intro wx hSw; refine Eq.trans (run_load_sub 43 (.tmp 6) (by rfl) w.heap.size 5 3 (by rfl) hSw.1 (by decide) _ Try.underlying43 rfl iv3) ?_; with_reducible rfl)
    (try simp only [Act.put, nA, nB, nC])
    refine wpAnyM_takeX [4, 5, 6, 13, 14, 15, 16, 17] 3 (v := ?_) rfl (by kernel_rfl) (fun _ _ _ h => h) (Or.inl ⟨by rfl, ?_⟩) (by assumption) ?_
    rotate_left
    · (intro wx hSw; (try dsimp only at hSw); go_simp; (try with_reducible rfl))
    (try simp only [Act.put, nA, nB, nC])
    refine wpAnyM_takeX [5, 6, 13, 14, 15, 16, 17] 4 (v := ?_) rfl (by kernel_rfl) (fun _ _ _ h => h) (Or.inl ⟨by rfl, ?_⟩) (by assumption) ?_
    rotate_left
    · (intro wx hSw; refine Eq.trans (run_load_sub 43 (.tmp 8) (by rfl) db 4 3 (by rfl) hSw.2.d (by decide) _ Try.underlying43 rfl iv3) ?_; with_reducible rfl)
    (try simp only [Act.put, nA, nB, nC])
    refine wpAnyM_take 7 (v := ?_) rfl (by kernel_rfl) (fun _ _ _ h => h) (Or.inl ⟨by rfl, ?_⟩) (by assumption) ?_
    rotate_left
    · (intro wx hSw; have q := hSw.2.cc; go_simp; with_reducible rfl)
    (try simp only [Act.put, nA, nB, nC])
    refine wpAnyM_takeX [9, 12, 13, 14, 15, 16, 17] 8 (v := ?_) rfl (by kernel_rfl) (fun _ _ _ h => h) (Or.inl ⟨by rfl, ?_⟩) (by assumption) ?_
    rotate_left
    · (intro wx hSw; (try dsimp only at hSw); go_simp; (try with_reducible rfl))
    (try simp only [Act.put, nA, nB, nC])
    refine wpAnyM_takeX [12, 13, 14, 15, 16, 17] 9 (v := ?_) rfl (by kernel_rfl) (fun _ _ _ h => h) (Or.inl ⟨by rfl, ?_⟩) (by assumption) ?_
    rotate_left
    · (intro wx hSw; refine Eq.trans (run_load_sub 43 (.tmp 13) (by rfl) w.heap.size 8 3 (by rfl) hSw.1 (by decide) _ Try.underlying43 rfl iv3) ?_; with_reducible rfl)
    (try simp only [Act.put, nA, nB, nC])
    refine wpAnyM_takeX [11, 12, 13, 15, 16, 17] 10 (v := ?_) rfl (by kernel_rfl) (fun _ _ _ h => h) (Or.inl ⟨by rfl, ?_⟩) (by assumption) ?_
    rotate_left
    · (intro wx hSw; (try dsimp only at hSw); go_simp; (try with_reducible rfl))
    (try simp only [Act.put, nA, nB, nC])
    refine wpAnyM_takeX [12, 13, 15, 16, 17] 11 (v := ?_) rfl (by kernel_rfl) (fun _ _ _ h => h) (Or.inl ⟨by rfl, ?_⟩) (by assumption) ?_
    rotate_left
    · (intro wx hSw; refine Eq.trans (run_load_sub 43 (.tmp 15) (by rfl) db 7 3 (by rfl) hSw.2.d (by decide) _ Try.underlying43 rfl iv3) ?_; with_reducible rfl)
    (try simp only [Act.put, nA, nB, nC])
    refine wpAnyM_twoS 5 12 rfl rfl (by kernel_rfl) (fun K hK => ?_) (fun K hK => ?_)
    · refine if_pos_of (by rfl) (wp_bslv2 (.tmp 7) (.tmp 9) rfl rfl rfl ?_); have HT := ls_sl2 HS.out (shV O D 5 4) _ (by first | (simp; rfl) | rfl); have HX := Lib.hid HT.2; have HS2 := Lib.hid HT.1; have HK2 := Lib.hid (HK.out.below ((Below.refl _ _).alloc (Nat.le_refl _) (.cells (arrv 6 (sideV (shV O D 5 4))) 43))); (try (have HY2 := Lib.hid (HY.out.below ((Below.refl _ _).alloc (Nat.le_refl _) (.cells (arrv 6 (sideV (shV O D 5 4))) 43))); clear HY; have HY := HY2; clear HY2)); clear HS HK HT; have HS := HS2; have HK := HK2; clear HS2 HK2
      clear hHeld
      refine hK.out _ _ ?_ (fun hHeld => ?_)
      · exact ⟨HS.out.e0, HK.out⟩
      clear hK K
      (try simp only [Act.put, nA, nB, nC])
      refine wpAnyM_twoS 6 12 rfl rfl (by kernel_rfl) (fun K hK => ?_) (fun K hK => ?_)
      · go_simp
        (refine (vadd_any c h _ 0 2 2 (shV O D 5 4) _ HS.out.cell HS.out.free (by decide) (by decide) HX.out).mono ?_); (rw [M1.out.1, N1.out.1]); rintro e w4 ⟨rfl, hu⟩; have hcl := HS.out.cell; (try (have HY2 := Lib.hid (HY.out.upd hcl hu); clear HY; have HY := HY2; clear HY2)); have HS2 := Lib.hid (HS.out.upd' hu); have HK2 := Lib.hid (HK.out.upd hu); clear HS HK hu HX hcl; have HS := HS2; have HK := HK2; clear HS2 HK2
        (try dsimp only)
        (try simp only [Act.put, nA, nB, nC])
        clear hHeld
        refine hK.out _ _ ?_ (fun hHeld => ?_)
        · exact ⟨HS.out.e0, HK.out⟩
        clear hK K
        (try simp only [Act.put, nA, nB, nC])
        refine wpAnyM_takeW 14 (v := ?_) rfl (by kernel_rfl) (fun _ _ _ h => h) (Or.inl ⟨by rfl, ?_⟩) (.inr (by assumption)) ?_
        rotate_left
        · (intro wx hSw; (try dsimp only at hSw); go_simp; (try with_reducible rfl))
        (try simp only [Act.put, nA, nB, nC])
        refine wpAnyM_oneS 12 rfl (by kernel_rfl) (fun K hK => ?_)
        refine if_pos_of (by rfl) (wp_bslv2 (.tmp 14) (.tmp 16) rfl rfl rfl ?_); have HT := ls_sl2 HS.out (shV O D 8 7) _ (by first | (simp; rfl) | rfl); have HY := Lib.hid HT.2; have HS2 := Lib.hid HT.1; have HK2 := Lib.hid (HK.out.below ((Below.refl _ _).alloc (Nat.le_refl _) (.cells (arrv 6 (sideV (shV O D 8 7))) 43))); (try (have HX2 := Lib.hid (HX.out.below ((Below.refl _ _).alloc (Nat.le_refl _) (.cells (arrv 6 (sideV (shV O D 8 7))) 43))); clear HX; have HX := HX2; clear HX2)); clear HS HK HT; have HS := HS2; have HK := HK2; clear HS2 HK2
        clear hHeld
        refine hK.out _ _ ?_ (fun hHeld => ?_)
        · exact ⟨HS.out.e0, HK.out⟩
        clear hK K
        (try simp only [Act.put, nA, nB, nC])
        refine wpAnyM_one 13 rfl (by kernel_rfl) (fun K hK => ?_)
        go_simp
        (refine (vadd_any c Ha _ 0 2 2 (shV O D 8 7) _ HS.out.cell HS.out.free (by decide) (by decide) HY.out).mono ?_); (rw [M1.out.2, N1.out.2]); rintro e w5 ⟨rfl, hu⟩; have HS2 := Lib.hid (HS.out.upd' hu); have HK2 := Lib.hid (HK.out.upd hu); clear HS HK hu HY; have HS := HS2; have HK := HK2; clear HS2 HK2
        (try dsimp only)
        (try simp only [Act.put, nA, nB, nC])
        refine hK.out _ _ (.inl (by kernel_rfl)) (fun _ => ?_)
        clear hK K
        (try simp only [Act.put, nA, nB, nC])
        refine wpAnyM_doneL 15 rfl (by kernel_rfl) (by rfl) (by kernel_rfl) (run_store_sub 43 (.tmp 19) (.tmp 11) rfl w.heap.size 5 rfl rfl HS.out.e0 (by decide) iv3) ?_
        (try simp only [Act.put, nA, nB, nC])
        refine wpAnyM_takeW 16 (v := ?_) rfl (by kernel_rfl) (fun _ _ _ h => h) (Or.inl ⟨by rfl, ?_⟩) (.inl (by kernel_rfl)) ?_
        rotate_left
        · (intro wx hSw; (try dsimp only at hSw); go_simp; (try with_reducible rfl))
        (try simp only [Act.put, nA, nB, nC])
        refine wpAnyM_doneL 17 rfl (by kernel_rfl) (by rfl) (by kernel_rfl) (run_store_sub 43 (.tmp 20) (.tmp 18) rfl w.heap.size 8 rfl rfl (HS.out.row (by simp) (putF O 5 3 V1)).e0 (by decide) iv3) ?_
        (try simp only [Act.put, nA, nB, nC])
        refine wpAnyM_done (by kernel_rfl) ?_ _
        (have HE := Lib.hid ((HS.out.row (by simp) (putF O 5 3 V1)).row (by simp) (putF (putF O 5 3 V1) 8 3 V2)); have HQ := Lib.hid (C0.out.row (C0.out.row HK.out (Nat.le_refl _) (arrv 11 (putF O 5 3 V1))) (Nat.le_refl _) (arrv 11 (putF (putF O 5 3 V1) 8 3 V2))); go_wp2_with fail; go_meet; exact ⟨HE, HQ⟩)
      · refine if_pos_of (by rfl) (wp_bslv2 (.tmp 14) (.tmp 16) rfl rfl rfl ?_); have HT := ls_sl2 HS.out (shV O D 8 7) _ (by first | (simp; rfl) | rfl); have HY := Lib.hid HT.2; have HS2 := Lib.hid HT.1; have HK2 := Lib.hid (HK.out.below ((Below.refl _ _).alloc (Nat.le_refl _) (.cells (arrv 6 (sideV (shV O D 8 7))) 43))); (try (have HX2 := Lib.hid (HX.out.below ((Below.refl _ _).alloc (Nat.le_refl _) (.cells (arrv 6 (sideV (shV O D 8 7))) 43))); clear HX; have HX := HX2; clear HX2)); clear HS HK HT; have HS := HS2; have HK := HK2; clear HS2 HK2
        clear hHeld
        refine hK.out _ _ ?_ (fun hHeld => ?_)
        · exact ⟨HS.out.e0, HK.out⟩
        clear hK K
        (try simp only [Act.put, nA, nB, nC])
        refine wpAnyM_oneS 6 rfl (by kernel_rfl) (fun K hK => ?_)
        go_simp
        (refine (vadd_any c h _ 0 2 2 (shV O D 5 4) _ HS.out.cell HS.out.free (by decide) (by decide) HX.out).mono ?_); (rw [M1.out.1, N1.out.1]); rintro e w4 ⟨rfl, hu⟩; have hcl := HS.out.cell; (try (have HY2 := Lib.hid (HY.out.upd hcl hu); clear HY; have HY := HY2; clear HY2)); have HS2 := Lib.hid (HS.out.upd' hu); have HK2 := Lib.hid (HK.out.upd hu); clear HS HK hu HX hcl; have HS := HS2; have HK := HK2; clear HS2 HK2
        (try dsimp only)
        (try simp only [Act.put, nA, nB, nC])
        clear hHeld
        refine hK.out _ _ ?_ (fun hHeld => ?_)
        · exact ⟨HS.out.e0, HK.out⟩
        clear hK K
        (try simp only [Act.put, nA, nB, nC])
        refine wpAnyM_takeW 14 (v := ?_) rfl (by kernel_rfl) (fun _ _ _ h => h) (Or.inl ⟨by rfl, ?_⟩) (.inr (by assumption)) ?_
        rotate_left
        · (intro wx hSw; (try dsimp only at hSw); go_simp; (try with_reducible rfl))
        (try simp only [Act.put, nA, nB, nC])
        refine wpAnyM_one 13 rfl (by kernel_rfl) (fun K hK => ?_)
        go_simp
        (refine (vadd_any c Ha _ 0 2 2 (shV O D 8 7) _ HS.out.cell HS.out.free (by decide) (by decide) HY.out).mono ?_); (rw [M1.out.2, N1.out.2]); rintro e w5 ⟨rfl, hu⟩; have HS2 := Lib.hid (HS.out.upd' hu); have HK2 := Lib.hid (HK.out.upd hu); clear HS HK hu HY; have HS := HS2; have HK := HK2; clear HS2 HK2
        (try dsimp only)
        (try simp only [Act.put, nA, nB, nC])
        refine hK.out _ _ (.inl (by kernel_rfl)) (fun _ => ?_)
        clear hK K
        (try simp only [Act.put, nA, nB, nC])
        refine wpAnyM_doneL 15 rfl (by kernel_rfl) (by rfl) (by kernel_rfl) (run_store_sub 43 (.tmp 19) (.tmp 11) rfl w.heap.size 5 rfl rfl HS.out.e0 (by decide) iv3) ?_
        (try simp only [Act.put, nA, nB, nC])
        refine wpAnyM_takeW 16 (v := ?_) rfl (by kernel_rfl) (fun _ _ _ h => h) (Or.inl ⟨by rfl, ?_⟩) (.inl (by kernel_rfl)) ?_
        rotate_left
        · (intro wx hSw; (try dsimp only at hSw); go_simp; (try with_reducible rfl))
        (try simp only [Act.put, nA, nB, nC])
        refine wpAnyM_doneL 17 rfl (by kernel_rfl) (by rfl) (by kernel_rfl) (run_store_sub 43 (.tmp 20) (.tmp 18) rfl w.heap.size 8 rfl rfl (HS.out.row (by simp) (putF O 5 3 V1)).e0 (by decide) iv3) ?_
        (try simp only [Act.put, nA, nB, nC])
        refine wpAnyM_done (by kernel_rfl) ?_ _
        (have HE := Lib.hid ((HS.out.row (by simp) (putF O 5 3 V1)).row (by simp) (putF (putF O 5 3 V1) 8 3 V2)); have HQ := Lib.hid (C0.out.row (C0.out.row HK.out (Nat.le_refl _) (arrv 11 (putF O 5 3 V1))) (Nat.le_refl _) (arrv 11 (putF (putF O 5 3 V1) 8 3 V2))); go_wp2_with fail; go_meet; exact ⟨HE, HQ⟩)
    · refine if_pos_of (by rfl) (wp_bslv2 (.tmp 14) (.tmp 16) rfl rfl rfl ?_); have HT := ls_sl2 HS.out (shV O D 8 7) _ (by first | (simp; rfl) | rfl); have HY := Lib.hid HT.2; have HS2 := Lib.hid HT.1; have HK2 := Lib.hid (HK.out.below ((Below.refl _ _).alloc (Nat.le_refl _) (.cells (arrv 6 (sideV (shV O D 8 7))) 43))); (try (have HX2 := Lib.hid (HX.out.below ((Below.refl _ _).alloc (Nat.le_refl _) (.cells (arrv 6 (sideV (shV O D 8 7))) 43))); clear HX; have HX := HX2; clear HX2)); clear HS HK HT; have HS := HS2; have HK := HK2; clear HS2 HK2
      clear hHeld
      refine hK.out _ _ ?_ (fun hHeld => ?_)
      · exact ⟨HS.out.e0, HK.out⟩
      clear hK K
      (try simp only [Act.put, nA, nB, nC])
      refine wpAnyM_oneS 5 rfl (by kernel_rfl) (fun K hK => ?_)
      refine if_pos_of (by rfl) (wp_bslv2 (.tmp 7) (.tmp 9) rfl rfl rfl ?_); have HT := ls_sl2 HS.out (shV O D 5 4) _ (by first | (simp; rfl) | rfl); have HX := Lib.hid HT.2; have HS2 := Lib.hid HT.1; have HK2 := Lib.hid (HK.out.below ((Below.refl _ _).alloc (Nat.le_refl _) (.cells (arrv 6 (sideV (shV O D 5 4))) 43))); (try (have HY2 := Lib.hid (HY.out.below ((Below.refl _ _).alloc (Nat.le_refl _) (.cells (arrv 6 (sideV (shV O D 5 4))) 43))); clear HY; have HY := HY2; clear HY2)); clear HS HK HT; have HS := HS2; have HK := HK2; clear HS2 HK2
      clear hHeld
      refine hK.out _ _ ?_ (fun hHeld => ?_)
      · exact ⟨HS.out.e0, HK.out⟩
      clear hK K
      (try simp only [Act.put, nA, nB, nC])
      refine wpAnyM_oneS 6 rfl (by kernel_rfl) (fun K hK => ?_)
      go_simp
      (refine (vadd_any c h _ 0 2 2 (shV O D 5 4) _ HS.out.cell HS.out.free (by decide) (by decide) HX.out).mono ?_); (rw [M1.out.1, N1.out.1]); rintro e w4 ⟨rfl, hu⟩; have hcl := HS.out.cell; (try (have HY2 := Lib.hid (HY.out.upd hcl hu); clear HY; have HY := HY2; clear HY2)); have HS2 := Lib.hid (HS.out.upd' hu); have HK2 := Lib.hid (HK.out.upd hu); clear HS HK hu HX hcl; have HS := HS2; have HK := HK2; clear HS2 HK2
      (try dsimp only)
      (try simp only [Act.put, nA, nB, nC])
      clear hHeld
      refine hK.out _ _ ?_ (fun hHeld => ?_)
      · exact ⟨HS.out.e0, HK.out⟩
      clear hK K
      (try simp only [Act.put, nA, nB, nC])
      refine wpAnyM_takeW 14 (v := ?_) rfl (by kernel_rfl) (fun _ _ _ h => h) (Or.inl ⟨by rfl, ?_⟩) (.inr (by assumption)) ?_
      rotate_left
      · (intro wx hSw; (try dsimp only at hSw); go_simp; (try with_reducible rfl))
      (try simp only [Act.put, nA, nB, nC])
      refine wpAnyM_one 13 rfl (by kernel_rfl) (fun K hK => ?_)
      go_simp
      (refine (vadd_any c Ha _ 0 2 2 (shV O D 8 7) _ HS.out.cell HS.out.free (by decide) (by decide) HY.out).mono ?_); (rw [M1.out.2, N1.out.2]); rintro e w5 ⟨rfl, hu⟩; have HS2 := Lib.hid (HS.out.upd' hu); have HK2 := Lib.hid (HK.out.upd hu); clear HS HK hu HY; have HS := HS2; have HK := HK2; clear HS2 HK2
      (try dsimp only)
      (try simp only [Act.put, nA, nB, nC])
      refine hK.out _ _ (.inl (by kernel_rfl)) (fun _ => ?_)
      clear hK K
      (try simp only [Act.put, nA, nB, nC])
      refine wpAnyM_doneL 15 rfl (by kernel_rfl) (by rfl) (by kernel_rfl) (run_store_sub 43 (.tmp 19) (.tmp 11) rfl w.heap.size 5 rfl rfl HS.out.e0 (by decide) iv3) ?_
      (try simp only [Act.put, nA, nB, nC])
      refine wpAnyM_takeW 16 (v := ?_) rfl (by kernel_rfl) (fun _ _ _ h => h) (Or.inl ⟨by rfl, ?_⟩) (.inl (by kernel_rfl)) ?_
      rotate_left
      · (intro wx hSw; (try dsimp only at hSw); go_simp; (try with_reducible rfl))
      (try simp only [Act.put, nA, nB, nC])
      refine wpAnyM_doneL 17 rfl (by kernel_rfl) (by rfl) (by kernel_rfl) (run_store_sub 43 (.tmp 20) (.tmp 18) rfl w.heap.size 8 rfl rfl (HS.out.row (by simp) (putF O 5 3 V1)).e0 (by decide) iv3) ?_
      (try simp only [Act.put, nA, nB, nC])
      refine wpAnyM_done (by kernel_rfl) ?_ _
      (have HE := Lib.hid ((HS.out.row (by simp) (putF O 5 3 V1)).row (by simp) (putF (putF O 5 3 V1) 8 3 V2)); have HQ := Lib.hid (C0.out.row (C0.out.row HK.out (Nat.le_refl _) (arrv 11 (putF O 5 3 V1))) (Nat.le_refl _) (arrv 11 (putF (putF O 5 3 V1) 8 3 V2))); go_wp2_with fail; go_meet; exact ⟨HE, HQ⟩)
  case rest =>
  obtain ⟨HB, KB⟩ := hcut
  clear HS HK
  go_upto_region 2 with fail
  have HS := Lib.hid HB.out.drew
  have HK := Lib.hid KB.out.drew
  clear HB KB
  (try simp only [Act.put])
  obtain ⟨O3, hO3⟩ : ∃ x, putF (putF O 5 3 V1) 8 3 V2 = x := ⟨_, rfl⟩
  rw [hO3] at HS
  have NO := Lib.hid hO3
  clear hO3
  refine wp_region_M (fun w' => ShC c bc db D w') 3 (by kernel_rfl) ?_ (fun hHeld => ?_)
  · exact HK.out
  refine wpAnyM_takeX [1, 3] 0 (v := ?_) rfl (by kernel_rfl) (fun _ _ _ h => h) (Or.inl ⟨by rfl, ?_⟩) (by assumption) ?_
  rotate_left
  · (intro wx hSw; (try dsimp only at hSw); go_simp; (try with_reducible rfl))
  (try simp only [Act.put, nA, nB, nC])
  refine wpAnyM_take 1 (v := ?_) rfl (by kernel_rfl) (fun _ _ _ h => h) (Or.inl ⟨by rfl, ?_⟩) (by assumption) ?_
  rotate_left
  · (intro wx hSw; refine Eq.trans (run_load_sub 42 (.tmp 21) (by rfl) db 0 4 (by rfl) hSw.d (by decide) _ Try.underlying42 rfl iqt) ?_; with_reducible rfl)
  (try simp only [Act.put, nA, nB, nC])
  refine wpAnyM_oneS 2 rfl (by kernel_rfl) (fun K hK => ?_)
  go_simp
  (refine (qone_any _).mono ?_); rintro e w6 ⟨rfl, hb⟩; have HS2 := Lib.hid (HS.out.down hb); have HK2 := Lib.hid (HK.out.below hb); clear HS HK hb; have HS := HS2; have HK := HK2; clear HS2 HK2
  (try dsimp only)
  (try simp only [Act.put, nA, nB, nC])
  clear hHeld
  refine hK.out _ _ ?_ (fun hHeld => ?_)
  · exact HK.out
  clear hK K
  (try simp only [Act.put, nA, nB, nC])
  refine wpAnyM_one 3 rfl (by kernel_rfl) (fun K hK => ?_)
  refine if_pos_of rfl ?_; refine wp_of_valo (run_op_neqVec Try.underlying42 (by kernel_rfl) (.tmp 22) (.tmp 23) rfl rfl rfl (show eqB 4 (fun i => D i) oneQ = true by simpa using E1.out)) ?_
  refine hK.out _ _ (.inl (by kernel_rfl)) (fun _ => ?_)
  clear hK K
  (try simp only [Act.put, nA, nB, nC])
  refine wpAnyM_done (by kernel_rfl) ?_ _
  skip
  have T0 := HS.out.e0
  have T1 := HS.out.e1
  go_upto_region 4 with fail
  refine wp_region_lit ?_
  refine wpList_val (v := ?_) rfl ?_ ?_
  rotate_left
  · (refine Eq.trans (run_load_row 49 (.tmp 3) (by rfl) (w.heap.size) (by rfl) _ _ _ _ T0 Try.underlying49 rfl (iou.trans (by rw [arrv_size]))) ?_; with_reducible rfl)
  (try simp only [Act.put, nA, nB, nC])
  refine wpList_done (w' := ?_) rfl ?_ ?_
  rotate_left
  · (refine Eq.trans (run_store_row 49 (.tmp 4) (.tmp 34) (by rfl) (w.heap.size + 1) (by rfl) (by rfl) T1 (iou.trans rfl)) ?_; with_reducible rfl)
  (try simp only [Act.put, nA, nB, nC])
  refine wpList_nil ?_
  have HE := Lib.hid ((HS.out.sub (E' := [⟨w.heap.size + 1, 49, 11, fun _ => 0⟩]) (by simp)).row (by simp) O3)
  generalize w6.setRow (w.heap.size + 1) (arrv 11 O3) = W5 at *
  go_wp2_with fail
  refine bodyPost_ret (results_cell_row Try.results35 _ _ (w.heap.size + 1) 49 (arrv 11 _) (0, 0) _ rfl HE.out.e0 Try.underlying49 rfl (iou.trans (by rw [arrv_size]))) rfl ⟨by rw [NO.out], HE.out.upd⟩
end Go.Proofs.Ytpoiobgpggiebaa
/- output.Shift by one jump without a turn. -/
namespace Go.Proofs.Ytpoiobgpggiebaa
open Go.RowKit
open Go
set_option maxRecDepth 100000
def shS (D : Nat → Int) (n : Nat) (L : Nat → Nat → Int) (k : Nat) : Nat → Nat → Int := if k = 0 then L else eaL (shF D) L n
def shHH (D : Nat → Int) (h : Bool) (n : Nat) (L : Nat → Nat → Int) (k : Nat) : Bool := if k = 0 then h else h || orB (fun i => eaH (shF D) (shH D) (L i)) n
theorem dlo : (Try.prog.info? 45).map (·.size) = some 10 := by kernel_rfl
theorem zdlo : (#[.int .i64 0, .int .i64 0, .int .i64 0, .int .i64 0, .int .i64 0, .int .i64 0, .int .i64 0, .int .i64 0, .int .i64 0, .int .i64 0] : Array Value) = arrv 10 (fun _ => 0) := by kernel_rfl
theorem cf_shift (args : Array Value) (x : World) : (callFunc 35 args).run Try.prog x = .ok (.enter 35 args) x := by kernel_rfl
theorem cf_corr (args : Array Value) (x : World) : (callFunc 33 args).run Try.prog x = .ok (.enter 33 args) x := by kernel_rfl
theorem EaR.from {c : Addr} {h : Bool} {pb : Nat} {z g : Int} {v : Value} {n : Nat} {L : Nat → Nat → Int} {w w1 wr : World} (r : EaR c h pb z g v n L w1 wr) (b : Below w.heap.size w w1) : EaR c h pb z g v n L w wr :=
  ⟨r.pd, r.cell, r.free, (Chg.below (X := fun k => k = c.block ∨ v.ownBlock = some k) b).trans r.chg⟩
theorem ShC.chg {c : Addr} {bc db : Nat} {D : Nat → Int} {X : Nat → Prop} {w w' : World} (s : ShC c bc db D w) (h : Chg X w w') (h1 : ¬ X bc) (h2 : ¬ X db) : ShC c bc db D w' :=
  s.kept h.size fun k hk => h.block k (s.ne k hk).2 (by simp at hk; rcases hk with rfl | rfl <;> assumption)
theorem EaR.trans' {c : Addr} {h h' : Bool} {pb : Nat} {z g : Int} {v : Value} {n : Nat} {L L' : Nat → Nat → Int} {w w1 w2 : World} (a : EaR c h pb z g v n L w w1) (b : EaR c h' pb z g v n L' w1 w2) : EaR c h' pb z g v n L' w w2 :=
  ⟨b.pd, b.cell, b.free, a.chg.trans b.chg⟩
/-- Behind the copy of a jump. -/
theorem sh_copy {c : Addr} {h : Bool} {pb : Nat} {z g : Int} {v : Value} {n : Nat} {L : Nat → Nat → Int} {D : Nat → Int} {w wr : World} (r : EaR c h pb z g v n L w wr) (hc : wr.cell? ⟨w.heap.size, 0, none⟩ = some (.pointer (some c))) (hz : w.heap.size < wr.heap.size) (hcb : c.block < w.heap.size) (hcp : c.block ≠ pb) (hw : ∀ k, v.ownBlock = some k → k < w.heap.size) (hv : ∀ k, v.ownBlock = some k → k ≠ c.block) :
    EaR c h pb z g v n L w ((wr.alloc (.cells #[.int .i64 0, .int .i64 0, .int .i64 0, .int .i64 0, .int .i64 0, .int .i64 0, .int .i64 0, .int .i64 0, .int .i64 0, .int .i64 0] 45)).setRow wr.heap.size (arrv 10 D)) ∧ ShC c w.heap.size wr.heap.size D ((wr.alloc (.cells #[.int .i64 0, .int .i64 0, .int .i64 0, .int .i64 0, .int .i64 0, .int .i64 0, .int .i64 0, .int .i64 0, .int .i64 0, .int .i64 0] 45)).setRow wr.heap.size (arrv 10 D)) ∧ ¬ (w.heap.size = c.block ∨ v.ownBlock = some w.heap.size) ∧ ¬ (wr.heap.size = c.block ∨ v.ownBlock = some wr.heap.size) := by
  have b : Below wr.heap.size wr ((wr.alloc (.cells #[.int .i64 0, .int .i64 0, .int .i64 0, .int .i64 0, .int .i64 0, .int .i64 0, .int .i64 0, .int .i64 0, .int .i64 0, .int .i64 0] 45)).setRow wr.heap.size (arrv 10 D)) := below_row ((Below.refl _ _).alloc (Nat.le_refl _) _) (Nat.le_refl _) _
  have hcl := World.block_lt_of_cell? _ _ r.cell
  refine ⟨⟨r.pd.below b, (b.cell hcl).trans r.cell, (b.frozen hcl).trans r.free, r.chg.then (Chg.below (X := fun _ => False) b) (fun _ _ y => y.elim)⟩, ⟨(b.cell (p := ⟨w.heap.size, 0, none⟩) hz).trans hc, ?_, ?_⟩, ?_, ?_⟩
  · rw [zdlo]; exact (Blk.new wr _ 10 _).setRow D
  · intro k hk
    have hs : wr.heap.size < ((wr.alloc (.cells #[.int .i64 0, .int .i64 0, .int .i64 0, .int .i64 0, .int .i64 0, .int .i64 0, .int .i64 0, .int .i64 0, .int .i64 0, .int .i64 0] 45)).setRow wr.heap.size (arrv 10 D)).heap.size := by rw [setRow_size]; simp
    simp at hk
    rcases hk with rfl | rfl
    · exact ⟨by omega, by omega⟩
    · exact ⟨by omega, hs⟩
  · rintro (e | e)
    · omega
    · have := hw _ e; omega
  · rintro (e | e)
    · omega
    · have := hw _ e; omega
set_option maxHeartbeats 8000000 in
theorem shift_one (c : Addr) (h : Bool) (pb : Nat) (z g : Int) (n : Nat) (L : Nat → Nat → Int) (v : Value) (D : Nat → Int) (lb cp : Nat) (w : World) (hc : w.cell? c = some (.bool h)) (hf : w.frozen? c = false) (hp : PdR w pb z g v n L) (hcp : c.block ≠ pb) (hvc : ∀ k, v.ownBlock = some k → k ≠ c.block) (hn : n ≤ 1000) (hD : ∀ i, i < 4 → D i = oneQ i) (hb : Blk w lb 45 10 D) :
    Calls Try.prog 17 #[.pointer (some ⟨pb, 0, none⟩), .pointer (some c), .slice (some ⟨lb, 0, none⟩) 1 cp] w fun e w' => e = .returned (.tuple #[]) ∧ EaR c (h || orB (fun i => eaH (shF D) (shH D) (L i)) n) pb z g v n (eaL (shF D) L n) w w' := by
  have hcb := World.block_lt_of_cell? w c hc
  have hbl := hb.lt
  have R0 := Lib.hid (show EaR c (shHH D h n L 0) pb z g v n (shS D n L 0) w (w.alloc (.cells #[.pointer (some c)] 27)) from ⟨hp.alloc _, by unfold shHH; rw [if_pos rfl]; exact ((Below.refl w.heap.size w).alloc (Nat.le_refl _) _).cell hcb |>.trans hc, (((Below.refl w.heap.size w).alloc (Nat.le_refl _) _).frozen hcb).trans hf, Chg.below ((Below.refl _ _).alloc (Nat.le_refl _) _)⟩)
  have T0 := Lib.hid (show (w.alloc (.cells #[.pointer (some c)] 27)).cell? ⟨w.heap.size, 0, none⟩ = some (.pointer (some c)) by rw [cell_of_row _ w.heap.size 0 _ _ (0, 0) (heap_alloc_new w _)]; rfl)
  have HV := Lib.hid hvc
  have HW := Lib.hid (fun k (e : v.ownBlock = some k) => hp.own.lt e)
  have HC := Lib.hid hcp
  have HD := Lib.hid hD
  have HB := Lib.hid hb
  have HPL := Lib.hid hp.lt
  clear hc hf hp hcp hvc hD hb
  go_enter Try.func17, Try.ntmps17
  go_upto_region 2 with fail
  have hn := hn
  have hw0 : w.heap.size < (w.alloc (.cells #[.pointer (some c)] 27)).heap.size := by simp
  have HBl := Lib.hid (HB.out.alloc (.cells #[.pointer (some c)] 27))
  generalize w.alloc (.cells #[.pointer (some c)] 27) = W0 at *
  go_loopw [10] (fun i wr => ∃ k : Nat, k ≤ 1 ∧ i = .int .i64 k ∧ (k = 0 → wr = W0) ∧ Hid (EaR c (shHH D h n L k) pb z g v n (shS D n L k) w wr)) (fun i _ => 1 - (intOf i).toNat)
  case atStart => exact ⟨0, by omega, by go_num, fun _ => rfl, R0⟩
  case round =>
    obtain ⟨k, hk, rfl, hz, R⟩ := hrel
    by_cases hlt : k < 1
    · obtain rfl : k = 0 := by omega
      obtain rfl := hz rfl
      have d1 : decide (((0 : Nat) : Int) < 1) = true := by decide
      clear R
      have B0 := HBl.out
      go_upto_region 3 with fail
      refine wp_region_lit ?_
      refine wpList_val (v := ?_) rfl ?_ ?_
      rotate_left
      · (go_simp; (try (first | with_reducible rfl | (constructor <;> with_reducible rfl))))
      (try simp only [Act.put, nA, nB, nC])
      refine wpList_val (v := ?_) rfl ?_ ?_
      rotate_left
      · (refine Eq.trans (run_load_row 45 (.tmp 12) (by rfl) lb (by rfl) _ _ _ _ B0 Try.underlying45 rfl (dlo.trans (by rw [arrv_size]))) ?_; with_reducible rfl)
      (try simp only [Act.put, nA, nB, nC])
      refine wpList_act (v := ?_) (w' := ?_) rfl ?_ ?_
      rotate_left 2
      · (go_simp; (try (first | with_reducible rfl | (constructor <;> with_reducible rfl))))
      (try simp only [Act.put, nA, nB, nC])
      refine wpList_done (w' := ?_) rfl ?_ ?_
      rotate_left
      · (refine Eq.trans (run_store_row 45 (.tmp 7) (.tmp 13) (by rfl) (wr.heap.size) (by rfl) (by rfl) (show Blk (wr.alloc (.cells #[.int .i64 0, .int .i64 0, .int .i64 0, .int .i64 0, .int .i64 0, .int .i64 0, .int .i64 0, .int .i64 0, .int .i64 0, .int .i64 0] 45)) wr.heap.size 45 10 (fun _ => 0) by rw [zdlo]; exact Blk.new _ _ _ _) (dlo.trans rfl)) ?_; with_reducible rfl)
      (try simp only [Act.put, nA, nB, nC])
      refine wpList_nil ?_
      have N0 := Lib.hid (sh_copy (D := D) R0.out T0.out hw0 hcb HC.out (fun k e => HW.out k e) HV.out)
      generalize (wr.alloc (.cells #[.int .i64 0, .int .i64 0, .int .i64 0, .int .i64 0, .int .i64 0, .int .i64 0, .int .i64 0, .int .i64 0, .int .i64 0, .int .i64 0] 45)).setRow wr.heap.size (arrv 10 D) = W1 at *
      obtain ⟨db, hdb⟩ : ∃ x, wr.heap.size = x := ⟨_, rfl⟩
      rw [hdb] at N0 ⊢
      clear hdb
      have q0 := N0.out.2.1.cc
      go_upto_region 4 with fail
      refine wp_region_lit ?_
      refine wpList_val (v := ?_) rfl ?_ ?_
      rotate_left
      · (go_simp; (try (first | with_reducible rfl | (constructor <;> with_reducible rfl))))
      (try simp only [Act.put, nA, nB, nC])
      refine wpList_val (v := ?_) rfl ?_ ?_
      rotate_left
      · (go_simp; (try (first | with_reducible rfl | (constructor <;> with_reducible rfl))))
      (try simp only [Act.put, nA, nB, nC])
      refine wpList_val (v := ?_) rfl ?_ ?_
      rotate_left
      · (go_simp; (try (first | with_reducible rfl | (constructor <;> with_reducible rfl))))
      (try simp only [Act.put, nA, nB, nC])
      refine wpList_step (fun K hK => ?_)
      go_simp
      (refine (each_out c (shHH D h n L 0) pb z g n (shS D n L 0) v 35 #[.pointer (some ⟨w.heap.size, 0, none⟩), .pointer (some ⟨db, 0, none⟩)] (shF D) (shH D) _ N0.out.1.cell N0.out.1.free N0.out.1.pd HC.out HV.out hn cf_shift (fun w' h' O hch hx hf => shclo_any c h' w.heap.size db D O HD.out w' hx hf (N0.out.2.1.chg hch N0.out.2.2.1 N0.out.2.2.2))).mono ?_); rintro e w2 ⟨rfl, hr⟩; have R1 := Lib.hid (EaR.trans' N0.out.1 hr); clear hr
      (try dsimp only)
      (try simp only [Act.put, nA, nB, nC])
      refine hK _ _ ?_
      clear hK K
      refine wpList_nil ?_
      go_wp2_with fail
      go_roundw
      case rel => exact ⟨1, by omega, by go_num, fun h => by omega, R1⟩
      case measure => simp [intOf]
    · obtain rfl : k = 1 := by omega
      have d1 : decide (((1 : Nat) : Int) < 1) = false := by decide
      go_wp2_with fail
      go_end0
      exact ⟨rfl, R.out⟩
end Go.Proofs.Ytpoiobgpggiebaa
