/- Contracts of the program's functions and plain laws, part 16: they hold for all arguments. -/
import Derived.Test.YtokcdlcmamdloaaQ15
import Derived.Test.YtokcdlcmamdloaaQ10
import Derived.Test.YtokcdlcmamdloaaQ14
import Derived.Outline
/- thornton.Step of variances alone, One and one number more: what comes out (plain law, 1). No program. -/
namespace Go.Proofs.Ytokcdlcmamdloaa
def atU (f : Nat → Int) (i m : Nat) : Nat → Int := fun q => uV f i (m + q)
def atX (f : Nat → Int) (j m : Nat) : Nat → Int := fun q => mulV (uV f j (m + q)) (f (276 + (m + q))) 30
def atV (f : Nat → Int) (i j : Nat) : Int := dotV 30 (atU f i (max i j)) (atX f j (max i j)) (24 - max i j)
def atB (f : Nat → Int) (j m : Nat) : Nat → Bool := fun q => mulH (uV f j (m + q)) (f (276 + (m + q))) 30
def atH (f : Nat → Int) (i j : Nat) : Bool := orB (atB f j (max i j)) (24 - max i j) || dotH 30 (atU f i (max i j)) (atX f j (max i j)) (24 - max i j)
def SB (x : Int) : Prop := -1152921504606846976 ≤ x ∧ x ≤ 1152921504606846976
theorem satV_sb {x : Int} (h : SB x) : satV x = x := satV_id h.1 h.2
theorem satH_sb {x : Int} (h : SB x) : satH x = false := satH_no h.1 h.2
theorem sb_0 : SB 0 := by unfold SB; omega
theorem sb_one : SB 1073741824 := by unfold SB; omega
/-- A stage that leaves the rows: those ahead have nothing in common with row j. -/
theorem stage_q {W e : Nat → Int} {j : Nat} (hj : j < 24) (hW : ∀ x, x < 1152 → SB (W x)) (_he : ∀ k, k < 48 → SB (e k))
    (hY : ∀ i, i < j → ∀ k, k < 48 → W (i * 48 + k) = 0 ∨ stY W e j k = 0) (hY2 : ∀ k, k < 48 → SB (stY W e j k)) (hy : ∀ k, k < 48 → yB W e j k = false) (hd : dB W e j = false) :
    (∀ x, x < 1152 → elW W e j j 0 x = W x) ∧ (∀ i, i < j → stU W e j i = 0) ∧ stageH W e j = false := by
  have hD : 1 ≤ stD W e j ∧ stD W e j ≤ 72057594037927936 := by unfold stD; exact varV_bd _
  have hz : ∀ i, i < j → dotS (rowF 48 W i) (stY W e j) 48 = 0 := fun i hi => dotS_no fun k hk => hY i hi k hk
  have hu : ∀ i, i < j → stU W e j i = 0 := by
    intro i hi
    unfold stU dotV
    rw [if_neg (by decide), hz i hi, show (30 : Int).toNat = 30 from rfl, rsh_0, satV_0]
    exact divV_z (by rw [satV_id (by omega) (by omega)]; omega) _
  have huB : ∀ i, i < j → uB W e j i = false := by
    intro i hi
    unfold uB dotV dotH
    rw [if_neg (by decide), if_neg (by decide), hz i hi, show (30 : Int).toNat = 30 from rfl, rsh_0, satV_0, satH_0, divH_z hD.1 (by omega) (by decide) (by decide)]
    rw [dotB_no (A := rowF 48 W i) fun k hk => ⟨satH_sb (hW (i * 48 + k) (by omega)), satH_sb (hY2 k hk)⟩]; rfl
  refine ⟨fun x hx => ?_, hu, ?_⟩
  · unfold elW
    split
    · unfold elV
      rw [hu _ (by omega), mulV_0, show x / 48 * 48 + x % 48 = x by omega]
      exact subV_0 (hW x hx).1 (hW x hx).2
    · rfl
  · unfold stageH
    rw [hd, orB_no hy, orB_no]; rfl
    intro i hi
    unfold rowB
    rw [huB i hi, orB_no]; rfl
    intro k hk
    have h1 := hW (j * 48 + k) (by omega)
    have h2 := hW (i * 48 + k) (by omega)
    unfold elB
    rw [hu i hi, mulV_0, mulH_0 h1.1 h1.2, subH_0 h2.1 h2.2]; rfl
/-- Row j is One at j and at 24 + j alone. -/
theorem plain_row {W e : Nat → Int} {j : Nat} (hj : j < 24) (hr : ∀ k, k < 48 → W (j * 48 + k) = if k = j ∨ k = 24 + j then 1073741824 else 0) (he : ∀ k, k < 48 → SB (e k)) (h24 : e (24 + j) = 0) (h1 : 1 ≤ e j ∧ e j ≤ 72057594037927936) :
    (∀ k, k < 48 → stY W e j k = if k = j then e j else 0) ∧ (∀ k, k < 48 → yB W e j k = false) ∧ dotS (rowF 48 W j) (stY W e j) 48 = 1073741824 * e j := by
  have hY : ∀ k, k < 48 → stY W e j k = if k = j then e j else 0 := by
    intro k hk
    unfold stY
    rw [hr k hk]
    have := he k hk
    by_cases e1 : k = j
    · rw [if_pos (.inl e1), if_pos e1, e1]; exact mulV_one (by omega) (by omega)
    · rw [if_neg e1]
      by_cases e2 : k = 24 + j
      · rw [if_pos (.inr e2), e2, h24]; decide
      · rw [if_neg (by omega)]; exact mulV_0 _
  refine ⟨hY, fun k hk => ?_, ?_⟩
  · unfold yB
    rw [hr k hk]
    have := he k hk
    split
    · exact mulH_one this.1 this.2
    · exact mulH_0 this.1 this.2
  · rw [dotS_1 (a := j) (by omega)]
    · rw [hY j (by omega), if_pos rfl]
      simp only [rowF]
      rw [hr j (by omega), if_pos (.inl rfl), satV_one, satV_id (by omega) (by omega)]
    · intro k hk hne
      right; rw [hY k hk, if_neg hne]
theorem plain_D {W e : Nat → Int} {j : Nat} (hj : j < 24) (hW : ∀ x, x < 1152 → SB (W x)) (hr : ∀ k, k < 48 → W (j * 48 + k) = if k = j ∨ k = 24 + j then 1073741824 else 0) (he : ∀ k, k < 48 → SB (e k)) (h24 : e (24 + j) = 0) (h1 : 1 ≤ e j ∧ e j ≤ 72057594037927936) :
    stD W e j = e j ∧ dB W e j = false := by
  obtain ⟨hY, _, hS⟩ := plain_row hj hr he h24 h1
  have hb : dotB (rowF 48 W j) (stY W e j) 48 = false := dotB_no fun k hk => ⟨satH_sb (hW _ (by omega)), by rw [hY k hk]; split; exact satH_no (by omega) (by omega); exact satH_0⟩
  unfold stD dB dotV dotH
  rw [if_neg (by decide), if_neg (by decide), hS, hb, show (30 : Int).toNat = 30 from rfl, rsh_mul, satV_id (by omega) (by omega), satH_no (by omega) (by omega), (varV_id h1.1 h1.2).1, (varV_id h1.1 h1.2).2]
  exact ⟨rfl, rfl⟩
/-- A plain stage: row j is One alone, and no row ahead has a number at j. -/
theorem stage_plain {W e : Nat → Int} {j : Nat} (hj : j < 24) (hW : ∀ x, x < 1152 → SB (W x)) (hr : ∀ k, k < 48 → W (j * 48 + k) = if k = j ∨ k = 24 + j then 1073741824 else 0) (he : ∀ k, k < 48 → SB (e k)) (h24 : e (24 + j) = 0)
    (h1 : 1 ≤ e j ∧ e j ≤ 72057594037927936) (hc : ∀ i, i < j → W (i * 48 + j) = 0) :
    (∀ x, x < 1152 → elW W e j j 0 x = W x) ∧ (∀ i, i < j → stU W e j i = 0) ∧ stageH W e j = false ∧ stD W e j = e j := by
  obtain ⟨hY, hy, _⟩ := plain_row hj hr he h24 h1
  obtain ⟨hD, hd⟩ := plain_D hj hW hr he h24 h1
  obtain ⟨a, b, c⟩ := stage_q hj hW he (fun i hi k hk => by
    by_cases e1 : k = j
    · left; rw [e1]; exact hc i hi
    · right; rw [hY k hk, if_neg e1]) (fun k hk => by rw [hY k hk]; split; exact he _ (by omega); exact sb_0) hy hd
  exact ⟨a, b, c, hD⟩
/-- The out so far, at a plain stage: D of row j, and noughts above it. -/
theorem outI_plain {O W e : Nat → Int} {j : Nat} (hj : j < 24) (hu : ∀ i, i < j → stU W e j i = 0) (hO : ∀ x, j * (j - 1) / 2 ≤ x → x < j * (j - 1) / 2 + j → O x = 0) : ∀ m, m ≤ j → ∀ x, outI O W e j m x = if x = 276 + j then stD W e j else O x
  | 0, _, x => by simp only [outI, upd]
  | m + 1, hm, x => by
    have ht := tri_le hj
    simp only [outI, upd]
    rw [outI_plain hj hu hO m (by omega) x, hu m (by omega)]
    split
    · rename_i h1
      unfold pl at h1
      rw [if_neg (by omega), hO x (by omega) (by omega)]
    · rfl
end Go.Proofs.Ytokcdlcmamdloaa
/- Part of a block of numbers, loaded or stored as a whole. -/
namespace Go.Proofs.Ytokcdlcmamdloaa
open Go.RowKit
open Go in
theorem run_loadVar_sub {P : Program} {w : World} {g T N : Nat} {f : Nat → Int} (h : Blk w g T N f) (o n : Nat) (hon : o + n ≤ N) (ty : TypeId) (d : TypeDesc)
    (hu : P.underlying ty = some d) (hd : (match d with | .struct _ | .array _ _ => true | _ => false) = true) (hi : (P.info? ty).map (·.size) = some n) :
    (loadVar ty ⟨g, o, none⟩).run P w = .ok (.agg (arrv n (fun i => f (o + i)))) w := by
  have hl : (loadCells ⟨g, o, none⟩ (arrv n (fun i => f (o + i))).toList.length).run P w = .ok (arrv n (fun i => f (o + i))).toList.toArray w :=
    run_loadCells_list (P := P) w ⟨g, o, none⟩ (arrv n (fun i => f (o + i))).toList (fun j v hv => by
      have hadd : (⟨g, o, none⟩ : Addr).add j = ⟨g, o + j, none⟩ := by unfold Addr.add; split <;> simp_all
      have hv' : (arrv n (fun i => f (o + i)))[j]? = some v := by simpa using hv
      have hj : j < n := by
        rcases Nat.lt_or_ge j n with h' | h'
        · exact h'
        · rw [Array.getElem?_eq_none (by rw [arrv_size]; omega)] at hv'; cases hv'
      rw [arrv_get hj] at hv'
      rw [hadd, h.cell (by omega)]; exact hv')
  cases hq : P.info? ty with
  | none => simp [hq] at hi
  | some i =>
    have hs : i.size = n := by simpa [hq] using hi
    have hagg : (isAgg ty).run P w = .ok true w := by
      unfold isAgg
      rw [Sem.run_bind, run_underlying hu w]
      cases d <;> simp_all
    simp only [Array.length_toList, Array.toArray_toList, arrv_size] at hl
    simp [loadVar, Sem.run_bind, hagg, sizeOf, typeInfo, hq, hs, hl]
open Go in
theorem wp_load_sub {P : Program} {o' : Oper} {a : Act} {w : World} {K : Act → World → Prop} {Q : Exit → Act → World → Prop} (ty : TypeId) (x : Operand) (ho : o'.op = .load ty x)
    (g o n : Nat) (hx : a.eval x = .pointer (some ⟨g, o, none⟩)) {T N : Nat} {f : Nat → Int} (h : Blk w g T N f) (hon : o + n ≤ N) (d : TypeDesc)
    (hu : P.underlying ty = some d) (hd : (match d with | .struct _ | .array _ _ => true | _ => false) = true) (hi : (P.info? ty).map (·.size) = some n)
    (hK : K (a.put o'.dst (.agg (arrv n (fun i => f (o + i))))) w) : o'.wp P a w K Q := by
  unfold Oper.wp execOp
  simp only [ho, hx, Instr.loadAt, Instr.sureAddr, Sem.run_bind, Sem.run_pure, Result.andThen_ok, run_loadVar_sub h o n hon ty d hu hd hi]
  exact hK
open Go in
theorem wpList_load_sub {P : Program} {ops : Array Oper} {rest : List Oper} {o' : Oper} {a : Act} {w : World} {Q : Exit → Act → World → Prop} (hgd : o'.guard = none) (ty : TypeId) (x : Operand) (ho : o'.op = .load ty x)
    (g o n : Nat) (hx : a.eval x = .pointer (some ⟨g, o, none⟩)) {T N : Nat} {f : Nat → Int} (h : Blk w g T N f) (hon : o + n ≤ N) (d : TypeDesc)
    (hu : P.underlying ty = some d) (hd : (match d with | .struct _ | .array _ _ => true | _ => false) = true) (hi : (P.info? ty).map (·.size) = some n)
    (hK : wpList P ops Q rest (a.put o'.dst (.agg (arrv n (fun i => f (o + i))))) w) : wpList P ops Q (o' :: rest) a w :=
  wpList_plain hgd fun _ hk => wp_load_sub ty x ho g o n hx h hon d hu hd hi (hk _ _ hK)
/-- The same inside a region that draws its order. -/
theorem run_load_sub {P : Program} {o' : Oper} {ev : Operand → Value} {w : World} (ty : TypeId) (x : Operand) (ho : o'.op = .load ty x)
    (g o n : Nat) (hx : ev x = .pointer (some ⟨g, o, none⟩)) {T N : Nat} {f : Nat → Int} (h : Blk w g T N f) (hon : o + n ≤ N) (d : TypeDesc)
    (hu : P.underlying ty = some d) (hd : (match d with | .struct _ | .array _ _ => true | _ => false) = true) (hi : (P.info? ty).map (·.size) = some n) :
    (execOp ev o').run P w = .ok (.value (.agg (arrv n (fun i => f (o + i))))) w := by
  unfold execOp
  simp [ho, hx, Instr.loadAt, Instr.sureAddr, Sem.run_bind, run_loadVar_sub h o n hon ty d hu hd hi]
end Go.Proofs.Ytokcdlcmamdloaa
/- Contract of tri.At: a number of the covariance. -/
namespace Go.Proofs.Ytokcdlcmamdloaa
open Go.RowKit
set_option maxRecDepth 100000
structure AtR (c : Addr) (h : Bool) (f : Nat → Int) (i j m : Nat) (u x : Value) (n : Nat) (w wr : World) : Prop where
  upd : Upd c (h || orB (atB f j m) n) w wr
  blk : Blk wr w.heap.size 25 300 f
  ou : Own wr (w.heap.size + 1) 2 u n (atU f i m)
  ox : Own wr (w.heap.size + 1) 2 x n (atX f j m)
  ne : ∀ g, u.ownBlock = some g → x.ownBlock ≠ some g
theorem ownBlock_lt {w : World} {B T : Nat} {v : Value} {n : Nat} {L : Nat → Int} (h : Own w B T v n L) {g : Nat} (e : v.ownBlock = some g) : B ≤ g ∧ g < w.heap.size := World.ownsRow.lt h g e
theorem snoc_fun {n : Nat} {L : Nat → Int} {y : Int} (e : y = L n) : ∀ i, i < n + 1 → upd L n y i = L i := fun i _ => by
  unfold upd; split
  · rename_i h; rw [h, e]
  · rfl
set_option maxHeartbeats 4000000 in
theorem at_any (c : Addr) (h : Bool) (f : Nat → Int) (i j : Nat) (w : World) (hc : w.cell? c = some (.bool h)) (hf : w.frozen? c = false) (hi : i < 24) (hj : j < 24) :
    Calls Try.prog 56 #[.pointer (some c), .agg (arrv 300 f), .int .i64 i, .int .i64 j] w fun e w' => e = .returned (.int .i64 (atV f i j)) ∧ Upd c (h || atH f i j) w w' := by
  have hcb := World.block_lt_of_cell? w c hc
  have HC := Lib.hid hc
  have HF := Lib.hid hf
  clear hc hf
  obtain ⟨m, hm⟩ : ∃ m, max i j = m := ⟨_, rfl⟩
  have hm24 : m < 24 := by omega
  have ev : atV f i j = dotV 30 (atU f i m) (atX f j m) (24 - m) := by unfold atV; rw [hm]
  have eh : (h || atH f i j) = (h || orB (atB f j m) (24 - m) || dotH 30 (atU f i m) (atX f j m) (24 - m)) := by unfold atH; rw [hm, Bool.or_assoc]
  rw [ev, eh]
  clear ev eh
  go_enter Try.func56, Try.ntmps56
  go_wp2_with fail
  go_loopw [9, 10, 11] (fun u x k wr => ∃ q : Nat, m ≤ q ∧ q ≤ 24 ∧ k = .int .i64 (q : Int) ∧ Hid (AtR c h f i j m u x (q - m) w wr)) (fun _ _ k _ => 24 - (intOf k).toNat)
  case atStart =>
    refine ⟨m, Nat.le_refl _, by omega, by congr 1; omega, ?_⟩
    rw [Nat.sub_self]
    refine ⟨?_, Blk.new w _ _ _, Own.nil _ _ _ _, Own.nil _ _ _ _, fun g hg => by cases hg⟩
    rw [show (h || orB (atB f j m) 0) = h from by simp [orB]]
    exact Upd.then (Upd.refl HC.out) (by (repeat (first | with_reducible exact Below.refl _ _ | with_reducible apply Below.drew | (with_reducible refine below_drewN ?_ _) | (with_reducible refine Below.alloc ?_ (by (try simp) <;> omega) _) | (with_reducible refine Below.setCell ?_ (by (try simp) <;> omega) _))))
  case round =>
    obtain ⟨q, hmq, hq24, rfl, R⟩ := hrel
    by_cases hlt : q < 24
    · obtain ⟨n, hn⟩ : ∃ n, q - m = n := ⟨_, rfl⟩
      rw [hn] at R
      have hqn : m + n = q := by omega
      have hn24 : n ≤ 24 := by omega
      have HQN := Lib.hid hqn
      clear hn hqn
      have d1 : decide ((q : Int) < 24) = true := by simp; omega
      have PB := R.out.blk
      have U1 := Lib.hid R.out.upd
      have O1 := Lib.hid R.out.ou
      have O2 := Lib.hid R.out.ox
      have NE := Lib.hid R.out.ne
      have hbl := PB.lt
      clear R
      go_upto_region 8 with (first | (refine wpList_load_row rfl 25 _ rfl w.heap.size rfl 25 _ (0, 0) _ PB Try.underlying25 rfl (icov.trans (by rw [arrv_size])) ?_) | (go_at_call 46; (refine (u_any f i q _ hi hlt).mono ?_); rintro e w2 ⟨rfl, hb2⟩; have HB2 := Lib.hid hb2; have hz2 := hb2.size; clear hb2) | (refine wpList_app1 rfl (.tmp 29) (.tmp 34) rfl (w.heap.size + 1) rfl ((O1.out.below HB2.out).alloc _) w2.heap.size 1 (uV f i q) rfl (by simp [go_sem]) (by omega) (by simp; omega) (w2.heap.size + 1) (by simp) ?_; intro g1 cp1 w3 hO1 hg1 hat1 hlt1; have HO1 := Lib.hid hO1; have HG1 := Lib.hid hg1; have HA1 := Lib.hid hat1; clear hO1 hg1 hat1))
      have hA2 : Below wr.heap.size wr (w2.alloc (.cells #[.int .i64 (uV f i q)] 2)) := HB2.out.alloc hz2 _
      have hG : Below (w.heap.size + 1) wr w3 := below_grown (hA2.mono (by omega)) HG1.out (fun k hk => (ownBlock_lt O1.out hk).1) (by simp; omega)
      have hz3 : wr.heap.size ≤ w3.heap.size := hG.size
      have PB3 : w3.heap[w.heap.size]? = some (.cells (arrv 300 f) 25 (0, 0)) := (hG.block _ (by omega)).trans PB
      have U3 := U1.out.then' (hG.mono (by omega))
      have c3 := U3.cellc HC.out
      have f3 := (U3.frozen hcb).trans HF.out
      have O23 : Own w3 (w.heap.size + 1) 2 u10 n (atX f j m) := ((O2.out.below hA2)).grown HG1.out (fun k hk e => NE.out k e.symm.symm hk)
      have NG : u10.ownBlock ≠ some g1 := by
        rcases HA1.out with e | e
        · exact NE.out g1 e
        · intro e2
          have := (ownBlock_lt O2.out e2).2
          omega
      have HO13 := Lib.hid (HO1.out.congr (snoc_fun (n := n) (L := atU f i m) (by simp only [atU]; rw [HQN.out])))
      have HO23 := Lib.hid O23
      have HU3 := Lib.hid U3
      have hq0 : (0 : Int) ≤ (q : Int) := Int.natCast_nonneg _
      have hq1 : (q : Int) < 24 := by omega
      have hl3 : w.heap.size < w3.heap.size := Blk.lt (f := f) PB3
      have HNG := Lib.hid NG
      clear PB hA2 HB2 U1 O1 O2 NE hbl hz2 HA1 HO1 O23 U3 HG1 hG NG
      refine wp_region_M (fun w' => w'.heap[w.heap.size]? = some (.cells (arrv 300 f) 25 (0, 0))) 13 (by kernel_rfl) ?_ (fun hHeld => ?_)
      · exact PB3
      refine wpAnyM_take 0 (v := ?_) rfl (by kernel_rfl) (fun _ _ _ h => h) (Or.inl ⟨by rfl, ?_⟩) (by assumption) ?_
      rotate_left
      · (intro wx hSw; (try dsimp only at hSw); go_simp; (try with_reducible rfl))
      (try simp only [Act.put, List.setIfInBounds_toArray, List.set_cons_zero, List.set_cons_succ])
      refine wpAnyM_take 1 (v := ?_) rfl (by kernel_rfl) (fun _ _ _ h => h) (Or.inl ⟨by rfl, ?_⟩) (by assumption) ?_
      rotate_left
      · (intro wx hSw; (try dsimp only at hSw); go_simp; (try with_reducible rfl))
      (try simp only [Act.put, List.setIfInBounds_toArray, List.set_cons_zero, List.set_cons_succ])
      refine wpAnyM_take 2 (v := ?_) rfl (by kernel_rfl) (fun _ _ _ h => h) (Or.inl ⟨by rfl, ?_⟩) (by assumption) ?_
      rotate_left
      · (intro wx hSw; refine Eq.trans (run_load_row 25 (.tmp 5) (by rfl) (w.heap.size) (by rfl) _ _ _ _ (hSw) Try.underlying25 rfl (icov.trans (by rw [arrv_size]))) ?_; with_reducible rfl)
      (try simp only [Act.put, List.setIfInBounds_toArray, List.set_cons_zero, List.set_cons_succ])
      refine wpAnyM_take 3 (v := ?_) rfl (by kernel_rfl) (fun _ _ _ h => h) (Or.inl ⟨by rfl, ?_⟩) (by assumption) ?_
      rotate_left
      · (intro wx hSw; (try dsimp only at hSw); go_simp; (try with_reducible rfl))
      (try simp only [Act.put, List.setIfInBounds_toArray, List.set_cons_zero, List.set_cons_succ])
      refine wpAnyM_take 4 (v := ?_) rfl (by kernel_rfl) (fun _ _ _ h => h) (Or.inl ⟨by rfl, ?_⟩) (by assumption) ?_
      rotate_left
      · (intro wx hSw; (try dsimp only at hSw); go_simp; (try with_reducible rfl))
      (try simp only [Act.put, List.setIfInBounds_toArray, List.set_cons_zero, List.set_cons_succ])
      refine wpAnyM_take 6 (v := ?_) rfl (by kernel_rfl) (fun _ _ _ h => h) (Or.inl ⟨by rfl, ?_⟩) (by assumption) ?_
      rotate_left
      · (intro wx hSw; (try dsimp only at hSw); go_simp; (try with_reducible rfl))
      (try simp only [Act.put, List.setIfInBounds_toArray, List.set_cons_zero, List.set_cons_succ])
      refine wpAnyM_take 7 (v := ?_) rfl (by kernel_rfl) (fun _ _ _ h => h) (Or.inl ⟨by rfl, ?_⟩) (by assumption) ?_
      rotate_left
      · (intro wx hSw; (try dsimp only at hSw); go_simp; (try with_reducible rfl))
      (try simp only [Act.put, List.setIfInBounds_toArray, List.set_cons_zero, List.set_cons_succ])
      refine wpAnyM_take 8 (v := ?_) rfl (by kernel_rfl) (fun _ _ _ h => h) (Or.inl ⟨by rfl, ?_⟩) (by assumption) ?_
      rotate_left
      · (intro wx hSw; (try dsimp only at hSw); go_simp; (try with_reducible rfl))
      (try simp only [Act.put, List.setIfInBounds_toArray, List.set_cons_zero, List.set_cons_succ])
      refine wpAnyM_take 9 (v := ?_) rfl (by kernel_rfl) (fun _ _ _ h => h) (Or.inl ⟨by rfl, ?_⟩) (by assumption) ?_
      rotate_left
      · (intro wx hSw; have hq := Blk.cell (f := f) (i := 276 + q) hSw (by omega); go_simp; (try with_reducible rfl))
      (try simp only [Act.put, List.setIfInBounds_toArray, List.set_cons_zero, List.set_cons_succ])
      refine wpAnyM_oneS 5 rfl (by kernel_rfl) (fun K hK => ?_)
      go_simp
      (refine (u_any f j q _ hj hlt).mono ?_); rintro e w4 ⟨rfl, hb4⟩; have HB4 := Lib.hid (Below.after (Below.drew (Below.refl w3.heap.size w3)) hb4); have kp := (HB4.out.block w.heap.size (by omega)).trans PB3; have hz4 := HB4.out.size; have c4 := (HB4.out.cell (World.block_lt_of_cell? _ _ c3)).trans c3; have f4 := (HB4.out.frozen (World.block_lt_of_cell? _ _ c3)).trans f3; clear hb4
      (try dsimp only)
      (try simp only [Act.put, List.setIfInBounds_toArray, List.set_cons_zero, List.set_cons_succ])
      clear hHeld
      refine hK.out _ _ ?_ (fun hHeld => ?_)
      · exact kp
      clear hK K
      (try simp only [Act.put, List.setIfInBounds_toArray, List.set_cons_zero, List.set_cons_succ])
      refine wpAnyM_oneS 10 rfl (by kernel_rfl) (fun K hK => ?_)
      go_simp
      (refine (fmul_any c _ (uV f j q) (f (276 + q)) 30 _ c4 f4).mono ?_); rintro e w5 ⟨rfl, hu5⟩; have kp2 := (hu5.block (k := w.heap.size) (by omega) (by omega)).trans kp; have HU5 := Lib.hid hu5; have hz5 := hu5.size; have kp3 : ∀ o, (w5.alloc o).heap[w.heap.size]? = some (.cells (arrv 300 f) 25 (0, 0)) := (fun o => Blk.alloc (show Blk w5 w.heap.size 25 300 f from kp2) o); have O25 := Lib.hid (((HO23.out.below HB4.out).upd HU5.out (by omega)).alloc (.cells #[.int .i64 (mulV (uV f j q) (f (276 + q)) 30)] 2)); clear hu5
      (try dsimp only)
      (try simp only [Act.put, List.setIfInBounds_toArray, List.set_cons_zero, List.set_cons_succ])
      clear hHeld
      refine hK.out _ _ ?_ (fun hHeld => ?_)
      · exact kp2
      clear hK K
      (try simp only [Act.put, List.setIfInBounds_toArray, List.set_cons_zero, List.set_cons_succ])
      refine wpAnyM_oneS 11 rfl (by kernel_rfl) (fun K hK => ?_)
      go_simp
      clear hHeld
      refine hK.out _ _ ?_ (fun hHeld => ?_)
      · exact kp3 _
      clear hK K
      (try simp only [Act.put, List.setIfInBounds_toArray, List.set_cons_zero, List.set_cons_succ])
      refine wpAnyM_oneS 12 rfl (by kernel_rfl) (fun K hK => ?_)
      refine step_app1 rfl (.tmp 36) (.tmp 47) rfl (w.heap.size + 1) rfl O25.out w5.heap.size 1 (mulV (uV f j q) (f (276 + q)) 30) rfl (by simp [go_sem]) (by omega) (by simp; omega) (w5.heap.size + 1) (by simp) ?_; intro g2 cp2 w6 hO2 hg2 hat2 hlt2; have HG6 := Lib.hid (below_grown (Below.refl (w.heap.size + 1) (w5.alloc (.cells #[.int .i64 (mulV (uV f j q) (f (276 + q)) 30)] 2))) hg2 (fun k hk => (ownBlock_lt O25.out hk).1) (by simp; omega)); have kp4 := (HG6.out.block w.heap.size (by omega)).trans (kp3 _); have HO26 := Lib.hid hO2; have HGR := Lib.hid hg2; have HAT := Lib.hid hat2; clear hO2 hg2 hat2
      clear hHeld
      refine hK.out _ _ ?_ (fun hHeld => ?_)
      · exact kp4
      clear hK K
      (try simp only [Act.put, List.setIfInBounds_toArray, List.set_cons_zero, List.set_cons_succ])
      refine wpAnyM_one 13 rfl (by kernel_rfl) (fun K hK => ?_)
      go_simp
      refine hK.out _ _ (.inl (by kernel_rfl)) (fun _ => ?_)
      clear hK K
      (try simp only [Act.put, List.setIfInBounds_toArray, List.set_cons_zero, List.set_cons_succ])
      refine wpAnyM_done (by kernel_rfl) ?_ _
      go_wp2_with fail
      go_roundw
      case rel =>
        have hcb' : c.block < w.heap.size + 1 := by omega
        refine ⟨q + 1, by omega, by omega, by go_num, ?_⟩
        rw [show q + 1 - m = n + 1 by have := HQN.out; omega]
        refine ⟨?_, kp4, ?_, HO26.out.congr (snoc_fun (n := n) (L := atX f j m) (by simp only [atX]; rw [HQN.out])), ?_⟩
        · rw [show (h || orB (atB f j m) (n + 1)) = (h || orB (atB f j m) n || mulH (uV f j q) (f (276 + q)) 30) from by simp [orB, atB, HQN.out, Bool.or_assoc]]
          exact ((((HU3.out.then HB4.out).trans HU5.out).alloc _).then' (HG6.out.mono (by omega)))
        · refine Own.grown (((HO13.out.below HB4.out).upd HU5.out hcb').alloc _) HGR.out (fun k hk e => ?_)
          have hk' : g1 = k := by simpa [Value.ownBlock] using hk
          subst hk'
          exact HNG.out e
        · intro g hg e
          have hg' : g1 = g := by simpa [Value.ownBlock] using hg
          have he' : g2 = g := by simpa [Value.ownBlock] using e
          subst hg'
          subst he'
          rcases HAT.out with e | e
          · exact HNG.out e
          · omega
      case measure => simp [intOf]; omega
    · obtain rfl : q = 24 := by omega
      rw [show ((24 : Nat) : Int) = 24 from rfl]
      obtain ⟨gu, cu, rfl, hBu, hlu, hcu⟩ := R.out.ou.slc (by omega)
      obtain ⟨gx, cx, rfl, hBx, hlx, hcx⟩ := R.out.ox.slc (by omega)
      have U1 := Lib.hid R.out.upd
      have c1 := U1.out.cellc HC.out
      have f1 := (U1.out.frozen hcb).trans HF.out
      have DC := Lib.hid (dot_any c _ 30 (atU f i m) (atX f j m) gu 0 cu gx 0 cx (24 - m) wr c1 f1 (by decide) (by decide) (by omega) hcu hcx)
      clear R hcu hcx
      go_wp2_with (go_at_call 32; (refine DC.out.mono ?_); rintro e w3 ⟨rfl, hu3⟩)
      go_ret
      exact ⟨rfl, U1.out.trans hu3⟩
end Go.Proofs.Ytokcdlcmamdloaa
