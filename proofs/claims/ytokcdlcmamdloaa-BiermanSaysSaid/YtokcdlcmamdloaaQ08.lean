/- Contracts of the program's functions and plain laws, part 8: they hold for all arguments. -/
import Derived.Test.YtokcdlcmamdloaaQ07
/- Contracts of package thornton (1): One, rows. -/
namespace Go.Proofs.Ytokcdlcmamdloaa
open Go.RowKit
set_option maxRecDepth 100000
def oneF : Nat → Int := fun i => if i / 24 = i % 24 then 1073741824 else 0
def oneS (k : Nat) : Nat → Int := fun i => if i / 24 = i % 24 ∧ i / 24 < k then 1073741824 else 0
theorem zmat : Try.zeroCells27 = arrv 576 (fun _ => 0) := by kernel_rfl
theorem imat : (Try.prog.info? 27).map (·.size) = some 576 := by kernel_rfl
structure OneR (w : World) (g : Nat → Int) (wr : World) : Prop where
  below : Below w.heap.size w wr
  res : Blk wr w.heap.size 27 576 (fun _ => 0)
  blk : Blk wr (w.heap.size + 1) 27 576 g
theorem one_any (w : World) :
    Calls Try.prog 26 #[] w fun e w' => e = .returned (.agg (arrv 576 oneF)) ∧ Below w.heap.size w w' := by
  go_enter Try.func26, Try.ntmps26
  go_wp2_with fail
  go_loopw [3] (fun i wr => ∃ k : Nat, k ≤ 24 ∧ i = .int .i64 k ∧ Hid (OneR w (oneS k) wr)) (fun i _ => 24 - (intOf i).toNat)
  case atStart =>
    refine ⟨0, by omega, rfl, ⟨by (repeat (first | with_reducible exact Below.refl _ _ | with_reducible apply Below.drew | (with_reducible refine below_drewN ?_ _) | (with_reducible refine Below.alloc ?_ (by (try simp) <;> omega) _) | (with_reducible refine Below.setCell ?_ (by (try simp) <;> omega) _))), ?_, ?_⟩⟩
    · rw [zmat]; exact (Blk.new w _ _ _).alloc _
    · rw [zmat]; exact (Blk.new1 w _ _ _ _).congr fun i hi => by simp [oneS]
  case round =>
    obtain ⟨k, hk, rfl, R⟩ := hrel
    by_cases hlt : k < 24
    · have b0 := R.out.blk.cell (i := k * 24 + k) (by omega)
      have b1 := R.out.blk.free (k * 24 + k)
      go_wp2_with fail
      go_roundw
      case rel =>
        refine ⟨k + 1, by omega, by go_num, ⟨R.out.below.setCell (by simp) _, R.out.res.other (by simp) _, ?_⟩⟩
        refine (R.out.blk.set _ _).congr fun i hi => ?_
        simp only [Go.Proofs.Ytokcdlcmamdloaa.upd, oneS]
        by_cases h1 : i = k * 24 + k
        · subst h1; rw [if_pos rfl, if_pos (by omega)]
        · rw [if_neg h1]; split <;> split <;> first | rfl | omega
      case measure => simp [intOf]; omega
    · have hk24 : k = 24 := by omega
      subst hk24
      have B0 := R.out.res
      have B1 := R.out.blk
      have HB := Lib.hid R.out.below
      clear R hlt hk
      rw [show ((24 : Nat) : Int) = 24 from rfl]
      go_wp2_with (first | (refine wpList_load_row rfl 27 _ rfl (w.heap.size + 1) rfl 27 _ (0, 0) _ B1 Try.underlying27 rfl (imat.trans (by rw [arrv_size])) ?_) | (refine wpList_store_row rfl 27 _ _ rfl w.heap.size _ rfl rfl 27 _ B0 (imat.trans (by rw [arrv_size])) (by rw [arrv_size, arrv_size]) (oneCell_arrv _ _) ?_))
      refine bodyPost_ret (results_cell_row Try.results26 _ _ w.heap.size 27 (arrv 576 (oneS 24)) (0, 0) _ rfl (setRow_heap _ _ _ _ _ _ B0) Try.underlying27 rfl (imat.trans (by rw [arrv_size]))) rfl ⟨?_, ?_⟩
      · rw [arrv_congr (g := oneF) fun i hi => by simp only [oneS, oneF]; split <;> split <;> first | rfl | omega]
      · exact below_row HB.out (Nat.le_refl _) _

/-- Column k of U; row i of a matrix. -/
def colF (f : Nat → Int) (k : Nat) : Nat → Int := fun m => if m ≤ k then uV f m k else 0
def rwV (f F : Nat → Int) (i k : Nat) : Int := dotV 30 (rowF 24 F i) (colF f k) 24
def rwB (f F : Nat → Int) (i k : Nat) : Bool := dotH 30 (rowF 24 F i) (colF f k) 24
def rwS (f F : Nat → Int) (k i : Nat) : Nat → Int := fun j => if j % 48 < k ∨ (j % 48 = k ∧ j / 48 < i) then rwV f F (j / 48) (j % 48) else 0
def rwE (f F : Nat → Int) (i : Nat) : Nat → Int := fun j => if j % 48 = 24 + j / 48 ∧ j / 48 < i then 1073741824 else rwS f F 24 0 j
def rowsW (f F : Nat → Int) : Nat → Int := fun j => if j % 48 < 24 then rwV f F (j / 48) (j % 48) else if j % 48 = 24 + j / 48 then 1073741824 else 0
def rwH (f F : Nat → Int) (k : Nat) : Bool := orB (fun k => orB (fun i => rwB f F i k) 24) k
def rowsH (f F : Nat → Int) : Bool := rwH f F 24
structure RowsR (c : Addr) (h : Bool) (f W : Nat → Int) (w wr : World) : Prop where
  upd : Upd c h w wr
  pb : Blk wr w.heap.size 25 300 f
  wb : Blk wr (w.heap.size + 1) 74 1152 W
theorem zrows : Try.zeroCells74 = arrv 1152 (fun _ => 0) := by kernel_rfl
theorem zcol : (#[.int .i64 0, .int .i64 0, .int .i64 0, .int .i64 0, .int .i64 0, .int .i64 0, .int .i64 0, .int .i64 0, .int .i64 0, .int .i64 0, .int .i64 0, .int .i64 0, .int .i64 0, .int .i64 0, .int .i64 0, .int .i64 0, .int .i64 0, .int .i64 0, .int .i64 0, .int .i64 0, .int .i64 0, .int .i64 0, .int .i64 0, .int .i64 0] : Array Value) = arrv 24 (fun _ => 0) := by kernel_rfl
end Go.Proofs.Ytokcdlcmamdloaa
/- Contract of thornton.rows. -/
namespace Go.Proofs.Ytokcdlcmamdloaa
open Go.RowKit
set_option maxRecDepth 100000
set_option maxHeartbeats 1000000 in
theorem rows_any (c : Addr) (h : Bool) (f F : Nat → Int) (fb : Nat) (w : World) (hc : w.cell? c = some (.bool h)) (hf : w.frozen? c = false) (hF : Blk w fb 27 576 F) :
    Calls Try.prog 30 #[.pointer (some c), .agg (arrv 300 f), .pointer (some ⟨fb, 0, none⟩)] w fun e w' =>
      e = .returned (.pointer (some ⟨w.heap.size + 1, 0, none⟩)) ∧ Upd c (h || rowsH f F) w w' ∧ Blk w' (w.heap.size + 1) 74 1152 (rowsW f F) := by
  have hcb := World.block_lt_of_cell? w c hc
  have hfl := hF.lt
  have hfc := hF.flag hc
  have HC := Lib.hid hc
  have HF := Lib.hid hf
  have HM := Lib.hid hF
  clear hc hf hF
  go_enter Try.func30, Try.ntmps30
  go_wp2_with fail
  go_loopw [13] (fun i wr => ∃ k : Nat, k ≤ 24 ∧ i = .int .i64 k ∧ Hid (RowsR c (h || rwH f F k) f (rwS f F k 0) w wr)) (fun i _ => 24 - (intOf i).toNat)
  case atStart =>
    refine ⟨0, by omega, rfl, ⟨?_, ?_, ?_⟩⟩
    · rw [show (h || rwH f F 0) = h from by simp [rwH, orB]]
      exact Upd.then (Upd.refl HC.out) (by (repeat (first | with_reducible exact Below.refl _ _ | with_reducible apply Below.drew | (with_reducible refine below_drewN ?_ _) | (with_reducible refine Below.alloc ?_ (by (try simp) <;> omega) _) | (with_reducible refine Below.setCell ?_ (by (try simp) <;> omega) _))))
    · exact (Blk.new w _ _ _).alloc _
    · rw [zrows]; exact (Blk.new1 w _ _ _ _).congr fun i hi => by simp [rwS]
  case round =>
    obtain ⟨k, hk, rfl, R⟩ := hrel
    by_cases hlt : k < 24
    · have PB := R.out.pb
      have d1 : decide ((k : Int) < 24) = true := by simp; omega
      obtain ⟨wo, rfl⟩ : ∃ wo : World, wo = wr := ⟨_, rfl⟩
      go_wp2_with fail
      go_loopw [18] (fun i wr => ∃ m : Nat, m ≤ k + 1 ∧ i = .int .i64 m ∧ Hid (Below wo.heap.size wo wr ∧ Blk wr wo.heap.size 23 24 (fun j => if j < m then colF f k j else 0))) (fun i _ => k + 1 - (intOf i).toNat)
      case atStart =>
        refine ⟨0, by omega, rfl, by (repeat (first | with_reducible exact Below.refl _ _ | with_reducible apply Below.drew | (with_reducible refine below_drewN ?_ _) | (with_reducible refine Below.alloc ?_ (by (try simp) <;> omega) _) | (with_reducible refine Below.setCell ?_ (by (try simp) <;> omega) _))), ?_⟩
        rw [zcol]; exact (Blk.new wo _ _ _).congr fun i hi => by simp
      case round =>
        obtain ⟨m, hm, rfl, Q⟩ := hrel
        by_cases hmk : m < k + 1
        · have PB2 := PB.below Q.out.1
          go_wp2_with (first | (refine wpList_load_row rfl 25 _ rfl w.heap.size rfl 25 _ (0, 0) _ PB2 Try.underlying25 rfl (icov.trans (by rw [arrv_size])) ?_))
          refine (u_any f m k _ (by omega) hlt).mono ?_; rintro e w2 ⟨rfl, hb2⟩
          have Q2 := Q.out.2.below hb2
          have q0 := Q2.cell (i := m) (by omega)
          have q1 := Q2.free m
          have HB2 := Lib.hid (Below.after Q.out.1 hb2)
          clear hb2 PB2
          go_wp2_with fail
          go_roundw
          case rel =>
            refine ⟨m + 1, by omega, by go_num, HB2.out.setCell (Nat.le_refl _) _, ?_⟩
            refine (Q2.set _ _).congr fun i hi => ?_
            simp only [Go.Proofs.Ytokcdlcmamdloaa.upd]
            by_cases h1 : i = m
            · subst h1; rw [if_pos rfl, if_pos (by omega)]; simp [colF]; omega
            · rw [if_neg h1]; split <;> split <;> first | rfl | omega
          case measure => simp [intOf]; omega
        · have hmk1 : m = k + 1 := by omega
          subst hmk1
          have CB := Q.out.2.congr (g := colF f k) fun i hi => by simp [colF]; omega
          have UU := Lib.hid ((R.out.upd.then Q.out.1))
          have PB3 := PB.below Q.out.1
          have WB := R.out.wb.below Q.out.1
          have hbs : w.heap.size + 1 < wo.heap.size := R.out.wb.lt
          clear Q hm hmk R PB
          obtain ⟨bc, hbc⟩ : ∃ bc, wo.heap.size = bc := ⟨_, rfl⟩
          rw [hbc] at CB hbs ⊢
          clear hbc
          rw [show ((k + 1 : Nat) : Int) = (k : Int) + 1 from by omega]
          go_wp2_with fail
          go_loopw [28] (fun i wr => ∃ m : Nat, m ≤ 24 ∧ i = .int .i64 m ∧ Hid (RowsR c (h || rwH f F k || orB (fun i => rwB f F i k) m) f (rwS f F k m) w wr ∧ Blk wr bc 23 24 (colF f k))) (fun i _ => 24 - (intOf i).toNat)
          case atStart =>
            refine ⟨0, by omega, rfl, ⟨?_, PB3, WB⟩, CB⟩
            rw [show (h || rwH f F k || orB (fun i => rwB f F i k) 0) = (h || rwH f F k) from by simp [orB]]
            exact UU.out
          case round =>
            obtain ⟨m, hm, rfl, Q⟩ := hrel
            by_cases hm24 : m < 24
            · have rc := Q.out.1.upd.cellc HC.out
              have rf := (Q.out.1.upd.frozen hcb).trans HF.out
              have MB := HM.out.upd Q.out.1.upd hfc
              go_wp2_with fail
              have d2 : decide ((m : Int) < 24) = true := by simp; omega
              have hk0 : (0 : Int) ≤ (k : Int) := Int.natCast_nonneg _
              have hm0 : (0 : Int) ≤ (m : Int) := Int.natCast_nonneg _
              have hk1 : (k : Int) < 24 := by omega
              have hm1 : (m : Int) < 24 := by omega
              have wb0 := Q.out.1.wb.cell (i := m * 48 + k) (by omega)
              have wb1 := Q.out.1.wb.free (m * 48 + k)
              have ga : ∀ i, i < 24 → wr.drew.cell? ⟨fb, m * 24 + i, none⟩ = some (.int .i64 (rowF 24 F m i)) := fun i hi => (MB.cell (i := m * 24 + i) (by omega)).trans rfl
              have gb : ∀ i, i < 24 → wr.drew.cell? ⟨bc, 0 + i, none⟩ = some (.int .i64 (colF f k i)) := fun i hi => by rw [Nat.zero_add]; exact Q.out.2.cell (i := i) hi
              have DC := Lib.hid (dot_any c _ 30 _ _ fb (m * 24) 24 bc 0 24 24 wr.drew rc rf (by decide) (by decide) (by decide) ga gb)
              clear ga gb
              go_region_with (go_at_call 32; (refine DC.out.mono ?_); rintro e w3 ⟨rfl, hu3⟩; (have wb3 := (Q.out.1.wb.drew.upd hu3 (Q.out.1.wb.flag rc)).cell (i := m * 48 + k) (by omega)); (have fz3 := (Q.out.1.wb.drew.upd hu3 (Q.out.1.wb.flag rc)).free (m * 48 + k)))
              have U3 : Upd c (h || rwH f F k || orB (fun i => rwB f F i k) m || rwB f F m k) wr w3 := Upd.after (Below.drew (Below.refl _ _)) hu3
              have W3 := Q.out.1.wb.upd U3 (Q.out.1.wb.flag rc)
              have P3 := Q.out.1.pb.upd U3 (Q.out.1.pb.flag rc)
              have C3 := Q.out.2.upd U3 (Q.out.2.flag rc)
              have HU3 := Lib.hid U3
              clear U3 hu3 wb3 fz3 wb0 wb1
              go_wp2_with fail
              go_roundw
              case rel =>
                refine ⟨m + 1, by omega, by go_num, ⟨?_, P3.other (by simp) _, ?_⟩, C3.other (by simp; omega) _⟩
                · rw [show (h || rwH f F k || orB (fun i => rwB f F i k) (m + 1)) = (h || rwH f F k || orB (fun i => rwB f F i k) m || rwB f F m k) from by simp [orB, Bool.or_assoc]]
                  exact (Q.out.1.upd.trans HU3.out).setCell (by simp) _
                · refine (W3.set _ _).congr fun i hi => ?_
                  simp only [Go.Proofs.Ytokcdlcmamdloaa.upd, rwS, rwV]
                  by_cases h1 : i = m * 48 + k
                  · subst h1
                    rw [if_pos rfl, if_pos (by omega), show (m * 48 + k) / 48 = m by omega, show (m * 48 + k) % 48 = k by omega]
                  · rw [if_neg h1]; split <;> split <;> first | rfl | omega
              case measure => simp [intOf]; omega
            · have hm1 : m = 24 := by omega
              subst hm1
              rw [show ((24 : Nat) : Int) = 24 from rfl]
              have HQ := Lib.hid Q.out.1
              clear Q hm hm24 CB UU PB3 WB hbs
              go_wp2_with fail
              go_roundw
              case rel =>
                refine ⟨k + 1, by omega, by go_num, ⟨?_, HQ.out.pb, ?_⟩⟩
                · rw [show (h || rwH f F (k + 1)) = (h || rwH f F k || orB (fun i => rwB f F i k) 24) from by simp [rwH, orB, Bool.or_assoc]]
                  exact HQ.out.upd
                · exact HQ.out.wb.congr fun i hi => by simp only [rwS]; split <;> split <;> first | rfl | omega
              case measure => simp [intOf]; omega
    · have hk24 : k = 24 := by omega
      subst hk24
      rw [show ((24 : Nat) : Int) = 24 from rfl]
      have HQ := R
      clear R hk hlt
      go_wp2_with fail
      go_loopw [45] (fun i wr => ∃ m : Nat, m ≤ 24 ∧ i = .int .i64 m ∧ Hid (RowsR c (h || rwH f F 24) f (rwE f F m) w wr)) (fun i _ => 24 - (intOf i).toNat)
      case atStart =>
        exact ⟨0, by omega, rfl, ⟨HQ.out.upd, HQ.out.pb, HQ.out.wb.congr fun i hi => by simp [rwE]⟩⟩
      case round =>
        obtain ⟨m, hm, rfl, Q⟩ := hrel
        by_cases hm24 : m < 24
        · have wb0 := Q.out.wb.cell (i := m * 48 + (24 + m)) (by omega)
          have wb1 := Q.out.wb.free (m * 48 + (24 + m))
          go_wp2_with fail
          go_roundw
          case rel =>
            refine ⟨m + 1, by omega, by go_num, ⟨Q.out.upd.setCell (by simp) _, Q.out.pb.other (by simp) _, ?_⟩⟩
            refine (Q.out.wb.set _ _).congr fun i hi => ?_
            simp only [Go.Proofs.Ytokcdlcmamdloaa.upd, rwE]
            by_cases h1 : i = m * 48 + (24 + m)
            · subst h1; rw [if_pos rfl, if_pos (by omega)]
            · rw [if_neg h1]; split <;> split <;> first | rfl | omega
          case measure => simp [intOf]; omega
        · have hm1 : m = 24 := by omega
          subst hm1
          have HQ2 := Lib.hid Q.out
          clear Q hm hm24 HQ
          go_wp2_with fail
          go_ret
          refine ⟨rfl, HQ2.out.upd, HQ2.out.wb.congr fun i hi => ?_⟩
          simp only [rwE, rowsW, rwS]
          by_cases h1 : i % 48 < 24
          · rw [if_neg (by omega), if_pos h1, if_pos (by omega)]
          · rw [if_neg h1, if_neg (show ¬ (i % 48 < 24 ∨ i % 48 = 24 ∧ i / 48 < 0) by omega)]
            split <;> split <;> first | rfl | omega
end Go.Proofs.Ytokcdlcmamdloaa
