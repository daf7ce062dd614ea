/- Contracts of the program's functions and plain laws, part 10: they hold for all arguments. -/
import Derived.Test.YtiajjiphknlldaaGreatQ09
import Derived.Test.YtiajjiphknlldaaGreatQ04
import Derived.Test.YtiajjiphknlldaaGreatQ06
/- state.Add, Keep and fuse.One read 24 numbers of the state. No program. -/
namespace Go.Proofs.YtiajjiphknlldaaGreat
section
variable {A B : Nat → Int} (h : ∀ i, i < 4 → A i = B i)
include h
theorem hyp_c : hypV A 4 = hypV B 4 ∧ hypH A 4 = hypH B 4 := by
  unfold hypV hypH
  rw [dotS_congr fun i hi => ⟨h i hi, h i hi⟩, orB_congr fun i hi => by rw [h i hi]]; exact ⟨rfl, rfl⟩
theorem uniT_c : (∀ i, i < 4 → uniT A i = uniT B i) ∧ uniTH A = uniTH B := by
  refine ⟨fun i hi => by unfold uniT; rw [h i hi, (hyp_c h).1], ?_⟩
  unfold uniTH; rw [(hyp_c h).1, (hyp_c h).2, orB_congr fun i hi => by rw [h i hi]]
theorem satA_c : ∀ i, i < 4 → satA A i = satA B i := fun i hi => by unfold satA; rw [h i hi]
theorem zer_c : zer4 A = zer4 B := by unfold zer4; rw [h 0 (by omega), h 1 (by omega), h 2 (by omega), h 3 (by omega)]
theorem uni_c : (∀ i, i < 4 → uniV A i = uniV B i) ∧ uniH A = uniH B := by
  have s := satA_c h
  have z := zer_c s
  have u := uniT_c s
  have v := uniT_c u.1
  constructor
  · intro i hi
    unfold uniV
    rw [z]
    by_cases hz : zer4 (satA B) = true
    · rw [if_pos hz, if_pos hz]
    · rw [if_neg hz, if_neg hz]; exact v.1 i hi
  · unfold uniH; rw [z, u.2, v.2, orB_congr fun i hi => by rw [h i hi]]
theorem unitB_c : unitB A = unitB B := by
  unfold unitB sum4 inQs inQs inQs inQs inQs; rw [h 0 (by omega), h 1 (by omega), h 2 (by omega), h 3 (by omega)]
end
theorem clm_c {S T : Nat → Int} (h : ∀ i, i < 24 → S i = T i) : (∀ i, i < 24 → clmF S i = clmF T i) ∧ clmH S = clmH T := by
  refine ⟨fun i hi => by unfold clmF; rw [h i hi], ?_⟩
  unfold clmH; exact orB_congr fun k hk => by unfold clmP; rw [h (4 + k) (by omega)]
theorem turnd_c {S T Q R : Nat → Int} (h : ∀ i, i < 24 → S i = T i) (hq : ∀ i, i < 4 → Q i = R i) : ∀ i, i < 24 → turnd S Q i = turnd T R i := fun i hi => by
  unfold turnd; split
  · rename_i h4; exact hq i h4
  · exact h i hi
theorem keep_c {S T : Nat → Int} (h : ∀ i, i < 24 → S i = T i) : (∀ i, i < 24 → keepF S i = keepF T i) ∧ keepH S = keepH T := by
  have u := uni_c (A := S) (B := T) fun i hi => h i (by omega)
  have b := unitB_c (A := S) (B := T) fun i hi => h i (by omega)
  have k : ∀ i, i < 24 → keepI S i = keepI T i := fun i hi => by
    unfold keepI
    rw [b]
    by_cases hz : unitB T = true
    · rw [if_pos hz, if_pos hz]; exact h i hi
    · rw [if_neg hz, if_neg hz]; exact turnd_c h u.1 i hi
  refine ⟨(clm_c k).1, ?_⟩
  unfold keepH; rw [b, u.2, (clm_c k).2]
theorem add1_c {S T D E : Nat → Int} (h : ∀ i, i < 24 → S i = T i) (d : ∀ i, i < 24 → D i = E i) : (∀ i, i < 24 → add1F S D i = add1F T E i) ∧ add1H S D = add1H T E := by
  have s : ∀ i, i < 24 → sumA S D i = sumA T E i := fun i hi => by unfold sumA; rw [h i hi, d i hi]
  have u := uni_c (A := sumA S D) (B := sumA T E) fun i hi => s i (by omega)
  have k := turnd_c s u.1
  refine ⟨(clm_c k).1, ?_⟩
  unfold add1H; rw [u.2, (clm_c k).2, orB_congr fun i hi => by rw [h i hi, d i hi]]
theorem addN1_c {S T D E : Nat → Int} (h : ∀ i, i < 24 → S i = T i) (d : ∀ i, i < 24 → D i = E i) : (∀ i, i < 24 → addNF S D 1 i = addNF T E 1 i) ∧ addNH S D 1 = addNH T E 1 := by
  have a := add1_c h (D := fun i => D (0 * 24 + i)) (E := fun i => E (0 * 24 + i)) fun i hi => by simpa using d i hi
  exact ⟨a.1, by unfold addNH addNH addNF; rw [a.2]⟩
/-- fuse.One, of states that agree on 24, factors on 300, and what was seen on 27. -/
theorem fo_c {S T P Q O E : Nat → Int} (hs : ∀ i, i < 24 → S i = T i) (hp : ∀ x, x < 300 → P x = Q x) (ho : ∀ i, i < 27 → O i = E i) :
    (∀ i, i < 24 → foSt S P O i = foSt T Q E i) ∧ (∀ x, x < 300 → foPt P O x = foPt Q E x) ∧ foFl S P O = foFl T Q E ∧ foL P O = foL Q E ∧ foY O = foY E ∧ foS P O = foS Q E := by
  have hy : foY O = foY E := by unfold foY; rw [ho 24 (by omega)]
  have hc := condF_c hp
  obtain ⟨u1, u2, u3, u4, u5⟩ := upd_c hc (fun i hi => ho i (by omega)) (O 25)
  rw [ho 25 (by omega)] at u1 u2 u3 u4 u5
  have e25 : O 25 = E 25 := ho 25 (by omega)
  have hv : foS P O = foS Q E := by unfold foS; rw [e25]; exact u3
  have hl : foL P O = foL Q E := by unfold foL; rw [hy, hv, ho 26 (by omega)]
  have hk := keep_c hs
  have hg : foG P O = foG Q E := by unfold foG; rw [e25, u2, hy]
  have ha := addN1_c hk.1 (D := foG Q E) (E := foG Q E) fun _ _ => rfl
  have hH : foH S P O = foH T Q E := by unfold foH; rw [e25, u4, hk.2, condH_c hp, ho 24 (by omega)]
  refine ⟨fun i hi => ?_, fun x hx => ?_, ?_, hl, hy, hv⟩
  · unfold foSt foA
    rw [hl, hg]
    by_cases hz : foL Q E = true
    · rw [if_pos hz, if_pos hz]; exact ha.1 i hi
    · rw [if_neg hz, if_neg hz]; exact hk.1 i hi
  · unfold foPt foQ
    rw [hl, e25]
    by_cases hz : foL Q E = true
    · rw [if_pos hz, if_pos hz]; exact u1 x hx
    · rw [if_neg hz, if_neg hz]; exact hc x hx
  · unfold foFl foTH; rw [hl, hH, e25, u5, u2, hy, hg, ha.2]
end Go.Proofs.YtiajjiphknlldaaGreat
/- fuse.One, where one state by itself is seen. No program. -/
namespace Go.Proofs.YtiajjiphknlldaaGreat
set_option maxRecDepth 100000
/-- What is seen: the row, the innovation, its variance, the gate. -/
def obF (h : Nat → Int) (y r g : Int) : Nat → Int := fun i => if i < 24 then h i else if i = 24 then y else if i = 25 then r else g
theorem obF_h (h : Nat → Int) (y r g : Int) : ∀ i, i < 24 → obF h y r g i = h i := fun i hi => by unfold obF; rw [if_pos hi]
theorem obF_y (h : Nat → Int) (y r g : Int) : obF h y r g 24 = y ∧ obF h y r g 25 = r ∧ obF h y r g 26 = g := ⟨rfl, rfl, rfl⟩
theorem fo_one {P : Nat → Int} (hp : DiagF P) {k : Nat} (hk : k < 24) {y r g : Int} (hr : 1 ≤ r ∧ r ≤ 72057594037927936) (hd : P (276 + k) ≤ 72057594037927936) :
    foS P (obF (pkF k) y r g) = P (276 + k) + r ∧
    (∀ i, i < 24 → foG P (obF (pkF k) y r g) i = mulV (if i = k then divV (P (276 + k)) (P (276 + k) + r) 30 else 0) (satV y) 30) ∧
    (∀ i, i < 24 → updG (condF P) (obF (pkF k) y r g) r i = if i = k then divV (P (276 + k)) (P (276 + k) + r) 30 else 0) ∧
    (∀ x, x < 276 → foQ P (obF (pkF k) y r g) x = 0) ∧
    (∀ i, i < 24 → foQ P (obF (pkF k) y r g) (276 + i) = if i = k then mdivV (P (276 + k)) r (P (276 + k) + r) else P (276 + i)) ∧
    condH P = false ∧ lkH (condF P) (obF (pkF k) y r g) r = false ∧ (1048576 ≤ r → updH (condF P) (obF (pkF k) y r g) r = false) := by
  have hc := cond_diag hp
  obtain ⟨c1, c2, c3, c4, c5⟩ := upd_c hc.1 (obF_h (pkF k) y r g) r
  obtain ⟨u1, u2, u3, u4, u5, u6⟩ := upd_one hp hk hr hd
  have e25 := (obF_y (pkF k) y r g).2.1
  have e24 := (obF_y (pkF k) y r g).1
  refine ⟨?_, fun i hi => ?_, fun i hi => ?_, fun x hx => ?_, fun i hi => ?_, hc.2, ?_, fun h => ?_⟩
  · unfold foS; rw [e25, c3]; exact u4
  · unfold foG foY gnF; rw [e25, e24, if_pos hi, c2, u3 i hi]
  · rw [c2]; exact u3 i hi
  · unfold foQ; rw [e25, c1 x (by omega)]; exact u1 x hx
  · unfold foQ; rw [e25, c1 (276 + i) (by omega)]; exact u2 i hi
  · rw [c4]; exact u5
  · rw [c5]; exact u6 h
/-- What chapter 18's awake looks at. -/
def awL : Nat → Int := fun i => if i < 4 then 1 else 17592186044416
def awC : Nat → Int := newF 5 awL
theorem awC_diag : DiagF awC := by
  constructor
  · intro x hx; unfold awC newF; rw [if_pos hx]
  · intro i hi
    unfold awC newF
    rw [if_neg (by omega), show 276 + i - 276 = i by omega]
    by_cases h : i < 5
    · rw [if_pos h]; unfold awL; split <;> decide
    · rw [if_neg h]; decide
theorem awC_4 : awC (276 + 4) = 17592186044416 ∧ newH 5 awL = false := by decide
def awS : Nat → Int := fun i => if i = 0 then 1073741824 else 0
def awG18 : Nat → Int := fun i => if i = 4 then 536870912 else 0
def awT : Nat → Int := fun i => if i = 0 then 1073741824 else if i = 4 then 536870912 else 0
theorem aw_st : (∀ i, i < 24 → keepF awS i = awS i) ∧ keepH awS = false ∧ (∀ i, i < 24 → addNF awS awG18 1 i = awT i) ∧ addNH awS awG18 1 = false ∧ (∀ i, i < 24 → keepF awT i = awT i) ∧ keepH awT = false := by decide +kernel
def awO1 : Nat → Int := obF (pkF 4) 1073741824 17592186044416 5
theorem aw_one : foS awC awO1 = 35184372088832 ∧ foY awO1 = 1073741824 ∧ foL awC awO1 = true ∧ (∀ i, i < 24 → foG awC awO1 i = awG18 i) ∧ foQ awC awO1 (276 + 4) = 8796093022208 ∧ orB (gnB (updG (condF awC) awO1 (awO1 25)) (foY awO1)) 24 = false := by
  obtain ⟨h1, h2, h3, h4, h5, _⟩ := fo_one awC_diag (k := 4) (by omega) (y := 1073741824) (r := 17592186044416) (g := 5) (by omega) (by rw [awC_4.1]; omega)
  rw [awC_4.1] at h1 h2 h3 h5
  have hy : foY awO1 = 1073741824 := by decide
  refine ⟨h1, hy, ?_, fun i hi => ?_, ?_, ?_⟩
  · unfold foL; rw [hy, show foS awC awO1 = 35184372088832 from h1, show awO1 26 = 5 from rfl]; decide
  · refine (h2 i hi).trans ?_
    unfold awG18; split <;> decide
  · refine (h5 4 (by omega)).trans ?_
    rw [if_pos rfl]; decide
  · refine orB_no fun i hi => ?_
    unfold gnB
    rw [show updG (condF awC) awO1 (awO1 25) i = _ from h3 i hi, hy]; split <;> decide
theorem aw_st1 : (∀ i, i < 24 → foSt awS awC awO1 i = awT i) ∧ foPt awC awO1 (276 + 4) = 8796093022208 ∧ foFl awS awC awO1 = false := by
  obtain ⟨h1, h2, h3, h4, h5, h6⟩ := aw_one
  have hg := addN1_c (S := keepF awS) (T := awS) aw_st.1 h4
  obtain ⟨_, _, _, _, _, f1, f2, f3⟩ := fo_one awC_diag (k := 4) (by omega) (y := 1073741824) (r := 17592186044416) (g := 5) (by omega) (by rw [awC_4.1]; omega)
  refine ⟨fun i hi => ?_, ?_, ?_⟩
  · unfold foSt foA; rw [if_pos h3]; exact (hg.1 i hi).trans (aw_st.2.2.1 i hi)
  · unfold foPt; rw [if_pos h3]; exact h5
  · unfold foFl foTH foH
    rw [if_pos h3, hg.2, h6, aw_st.2.1, f1, aw_st.2.2.2.1]
    rw [show lkH (condF awC) awO1 (awO1 25) = false from f2, show updH (condF awC) awO1 (awO1 25) = false from f3 (by omega)]
    decide
theorem foPt_diag : DiagF (foPt awC awO1) := by
  have h3 := aw_one.2.2.1
  obtain ⟨_, _, _, h4, h5, _⟩ := fo_one awC_diag (k := 4) (by omega) (y := 1073741824) (r := 17592186044416) (g := 5) (by omega) (by rw [awC_4.1]; omega)
  constructor
  · intro x hx; unfold foPt; rw [if_pos h3]; exact h4 x hx
  · intro i hi
    unfold foPt; rw [if_pos h3]
    have e : foQ awC awO1 (276 + i) = _ := h5 i hi
    rw [e]
    split
    · rw [awC_4.1]; decide
    · exact awC_diag.2 i hi
def awO2 : Nat → Int := obF (pkF 4) 1125899906842624 1 1
theorem aw_st2 {S P : Nat → Int} (hS : ∀ i, i < 24 → S i = awT i) (hP : DiagF P) (h4 : P (276 + 4) = 8796093022208) :
    foL P awO2 = false ∧ (∀ i, i < 24 → foSt S P awO2 i = awT i) ∧ foFl S P awO2 = false := by
  obtain ⟨h1, _, _, _, _, f1, f2, _⟩ := fo_one hP (k := 4) (by omega) (y := 1125899906842624) (r := 1) (g := 1) (by omega) (by rw [h4]; omega)
  rw [h4] at h1
  have hl : foL P awO2 = false := by
    unfold foL; rw [show foS P awO2 = 8796093022208 + 1 from h1, show foY awO2 = 1125899906842624 from by decide, show awO2 26 = 1 from rfl]; decide
  have hn : ¬ (foL P awO2 = true) := by rw [hl]; decide
  have k := keep_c hS
  refine ⟨hl, fun i hi => ?_, ?_⟩
  · unfold foSt; rw [if_neg hn]; exact (k.1 i hi).trans (aw_st.2.2.2.2.1 i hi)
  · unfold foFl foH; rw [if_neg hn, k.2, aw_st.2.2.2.2.2, f1, show lkH (condF P) awO2 (awO2 25) = false from f2]; decide
/-- The two, one behind the other. -/
def awO : Nat → Int := fun i => if i < 27 then awO1 i else awO2 (i - 27)
theorem aw_rows : (∀ i, i < 27 → rowO awO 0 i = awO1 i) ∧ (∀ i, i < 27 → rowO awO 1 i = awO2 i) :=
  ⟨fun i hi => by
    show awO (0 * 27 + i) = _
    rw [show 0 * 27 + i = i by omega]; unfold awO; rw [if_pos hi],
   fun i hi => by
    show awO (1 * 27 + i) = _
    unfold awO; rw [if_neg (by omega), show 1 * 27 + i - 27 = i by omega]⟩
theorem aw_all : alT awS awC awO 0 = true ∧ alT awS awC awO 1 = false ∧ (∀ i, i < 24 → (alN awS awC awO 2).1 i = awT i) ∧ alH awS awC awO 2 = false := by
  obtain ⟨r1, r2⟩ := aw_rows
  obtain ⟨a1, a2, a3, a4, _, _⟩ := fo_c (S := awS) (T := awS) (P := awC) (Q := awC) (fun _ _ => rfl) (fun _ _ => rfl) r1
  obtain ⟨s1, s2, s3⟩ := aw_st1
  have pd := foPt_diag
  have t1 : ∀ i, i < 24 → (alN awS awC awO 1).1 i = awT i := fun i hi => (a1 i hi).trans (s1 i hi)
  have p1 : ∀ x, x < 300 → (alN awS awC awO 1).2 x = foPt awC awO1 x := fun x hx => by
    show foPt (alN awS awC awO 0).2 (rowO awO 0) x = _
    exact a2 x hx
  have d1 : DiagF (alN awS awC awO 1).2 := ⟨fun x hx => (p1 x (by omega)).trans (pd.1 x hx), fun i hi => by rw [p1 (276 + i) (by omega)]; exact pd.2 i hi⟩
  obtain ⟨b1, b2, b3⟩ := aw_st2 t1 d1 (by rw [p1 (276 + 4) (by omega)]; exact s2)
  obtain ⟨c1, _, c3, c4, _, _⟩ := fo_c (S := (alN awS awC awO 1).1) (T := (alN awS awC awO 1).1) (P := (alN awS awC awO 1).2) (Q := (alN awS awC awO 1).2) (fun _ _ => rfl) (fun _ _ => rfl) r2
  refine ⟨a4.trans aw_one.2.2.1, c4.trans b1, fun i hi => (c1 i hi).trans (b2 i hi), ?_⟩
  simp only [alH]
  rw [show foFl (alN awS awC awO 0).1 (alN awS awC awO 0).2 (rowO awO 0) = false from a3.trans s3, show foFl (alN awS awC awO 1).1 (alN awS awC awO 1).2 (rowO awO 1) = false from c3.trans b3]; rfl
end Go.Proofs.YtiajjiphknlldaaGreat
/- A slice of two observations, built. -/
namespace Go.Proofs.YtiajjiphknlldaaGreat
open Go.RowKit
open Go
set_option maxRecDepth 100000
/-- Two rows of 27, one behind the other. -/
def twoO (X Y : Nat → Int) : Nat → Int := fun i => if i < 27 then X i else Y (i - 27)
theorem fill27 (X Y : Nat → Int) (Z : Array Value) (hZ : Z = arrv 54 (fun _ => 0)) : Instr.fill (fun i => some (i * 27, 27)) Z [(0, .agg (arrv 27 X)), (1, .agg (arrv 27 Y))] = some (arrv 54 (twoO X Y)) := by
  subst hZ; kernel_rfl
theorem zrange27 (Z : Array Value) (hZ : Z = arrv 27 (fun _ => 0)) : (Array.range 54).map (fun i => Z[i % Z.size]!) = arrv 54 (fun _ => 0) := by
  subst hZ; kernel_rfl
theorem run_buildSlice27 (X Y : Nat → Int) (w : World) : (Instr.buildSlice 75 2 #[(0, .agg (arrv 27 X)), (1, .agg (arrv 27 Y))]).run Tryz.prog w = .ok (.slice (some ⟨w.heap.size, 0, none⟩) 2 2) (w.alloc (.cells (arrv 54 (twoO X Y)) 29)) := by
  have hz : (zeroValue 29).run Tryz.prog w = .ok (.agg (arrv 27 (fun _ => 0))) w := by kernel_rfl
  have hs : (sizeOf 29).run Tryz.prog w = .ok 27 w := by kernel_rfl
  unfold Instr.buildSlice
  simp only [Sem.run_bind, run_underlying Tryz.underlying75, Result.andThen_ok, hs]
  rw [if_neg (by decide), if_neg (by decide)]
  have hf : Instr.fill (fun i => some (i * 27, 27)) (Array.map (fun x => (Value.agg (arrv 27 (fun _ => 0))).cells[x % (Value.agg (arrv 27 (fun _ => 0))).cells.size]!) (Array.range (2 * 27))) [(0, Value.agg (arrv 27 X)), (1, Value.agg (arrv 27 Y))] = some (arrv 54 (twoO X Y)) :=
    fill27 X Y _ (zrange27 (arrv 27 (fun _ => 0)) rfl)
  simp only [Sem.run_bind, hz, Result.andThen_ok, Sem.run_pure, hf]
  simp [newRow, newObj, go_sem]
  rfl
/-- At the operation. -/
theorem wp_bsl27 {o : Oper} {a : Act} {w : World} {K : Act → World → Prop} {Q : Exit → Act → World → Prop} {X Y : Nat → Int} (x y : Operand) (ho : o.op = .buildSlice 75 2 #[(0, x), (1, y)])
    (hx : a.eval x = .agg (arrv 27 X)) (hy : a.eval y = .agg (arrv 27 Y)) (h : K (a.put o.dst (.slice (some ⟨w.heap.size, 0, none⟩) 2 2)) (w.alloc (.cells (arrv 54 (twoO X Y)) 29))) : o.wp Tryz.prog a w K Q := by
  unfold Oper.wp execOp
  simp only [ho, Sem.run_bind, List.map_toArray, List.map_cons, List.map_nil, hx, hy, run_buildSlice27 X Y w, Result.andThen_ok]
  exact h
end Go.Proofs.YtiajjiphknlldaaGreat
/- awake of chapter 18: what holds behind its first number; the second call's contract. -/
namespace Go.Proofs.YtiajjiphknlldaaGreat
open Go.RowKit
set_option maxRecDepth 100000
structure AwK (sb pb ob tb : Nat) (SN PN : Nat → Int) (YV VN : Int) (w w' : World) : Prop where
  below : Below w.heap.size w w'
  flg : Flg w' w.heap.size false
  s : Blk w' sb 23 24 awS
  p : Blk w' pb 26 300 awC
  o : Blk w' ob 29 27 awO1
  t : Blk w' tb 23 24 SN
  q : Blk w' (tb + 1) 26 300 PN
  r : Res w' (tb + 1 + 1) true YV VN
  ord : w.heap.size < sb ∧ sb < pb ∧ pb < ob ∧ ob < tb
section
variable {sb pb ob tb : Nat} {SN PN : Nat → Int} {YV VN : Int} {w wr w' : World}
theorem AwK.down (a : AwK sb pb ob tb SN PN YV VN w wr) (u : Below wr.heap.size wr w') : AwK sb pb ob tb SN PN YV VN w w' :=
  ⟨Below.after a.below u, a.flg.below u, a.s.below u, a.p.below u, a.o.below u, a.t.below u, a.q.below u, a.r.below u, a.ord⟩
theorem AwK.alloc (a : AwK sb pb ob tb SN PN YV VN w wr) (o : Obj) : AwK sb pb ob tb SN PN YV VN w (wr.alloc o) := a.down ((Below.refl _ _).alloc (Nat.le_refl _) o)
theorem AwK.drew (a : AwK sb pb ob tb SN PN YV VN w wr) : AwK sb pb ob tb SN PN YV VN w wr.drew := ⟨a.below.drew, a.flg, a.s, a.p, a.o, a.t, a.q, a.r, a.ord⟩
theorem AwK.upd (a : AwK sb pb ob tb SN PN YV VN w wr) (u : Upd ⟨w.heap.size, 0, none⟩ false wr w') : AwK sb pb ob tb SN PN YV VN w w' := by
  have h := a.ord
  exact ⟨own_upd a.below (Nat.le_refl _) u, a.flg.hit u, a.s.upd u (by show sb ≠ w.heap.size; omega), a.p.upd u (by show pb ≠ w.heap.size; omega), a.o.upd u (by show ob ≠ w.heap.size; omega), a.t.upd u (by show tb ≠ w.heap.size; omega), a.q.upd u (by show tb + 1 ≠ w.heap.size; omega), a.r.upd u (by show tb + 1 + 1 ≠ w.heap.size; omega), h⟩
theorem AwK.row (a : AwK sb pb ob tb SN PN YV VN w wr) {b : Nat} (hb : tb + 1 + 1 < b) (cs : Array Value) : AwK sb pb ob tb SN PN YV VN w (wr.setRow b cs) := by
  have h := a.ord
  exact ⟨below_row a.below (by omega) _, a.flg.row _ (by omega), a.s.setRow_other _ (by omega), a.p.setRow_other _ (by omega), a.o.setRow_other _ (by omega), a.t.setRow_other _ (by omega), a.q.setRow_other _ (by omega), a.r.row _ (by omega), h⟩
theorem awk_st (a : AwK sb pb ob tb SN PN YV VN w wr) (b : Nat) (hb : wr.heap.size = b) : Blk (wr.alloc (.cells #[.int .i64 0, .int .i64 0, .int .i64 0, .int .i64 0, .int .i64 0, .int .i64 0, .int .i64 0, .int .i64 0, .int .i64 0, .int .i64 0, .int .i64 0, .int .i64 0, .int .i64 0, .int .i64 0, .int .i64 0, .int .i64 0, .int .i64 0, .int .i64 0, .int .i64 0, .int .i64 0, .int .i64 0, .int .i64 0, .int .i64 0, .int .i64 0] 23)) b 23 24 (fun _ => 0) ∧ tb + 1 + 1 < b := by
  subst hb
  rw [zvec24]; exact ⟨Blk.new wr _ 24 _, a.r.lt⟩
theorem awk_cov (a : AwK sb pb ob tb SN PN YV VN w wr) (b : Nat) (hb : wr.heap.size = b) : Blk (wr.alloc (.cells Tryz.zeroCells26 26)) b 26 300 (fun _ => 0) ∧ tb + 1 + 1 < b := by
  subst hb
  rw [zcov]; exact ⟨Blk.new wr _ _ _, a.r.lt⟩
theorem awk_slc (_a : AwK sb pb ob tb SN PN YV VN w wr) (x : Int) (b : Nat) (hb : wr.heap.size = b) : Slc (wr.alloc (.cells #[.int .i64 x] 3)) (some ⟨b, 0, none⟩) 1 (fun _ => x) := by
  subst hb
  intro i hi
  obtain rfl : i = 0 := by omega
  exact ⟨_, _, rfl, by simp [go_sem]⟩
theorem awk_obs (_a : AwK sb pb ob tb SN PN YV VN w wr) (f : Nat → Int) (b : Nat) (hb : wr.heap.size = b) : Blk (wr.alloc (.cells (arrv 54 f) 29)) b 29 (27 * 2) f := by
  subst hb
  exact Blk.new wr _ 54 f
end
theorem ownr_a {w w1 : World} {b T n m B : Nat} {f : Nat → Int} {v : Value} {t : Nat → Bool} {y s : Nat → Int} (a : Blk w1 b T n f) (h : OwnR w (w1.heap.size + 1 + 1 + 1 + 1) v m t y s) (_e : B = B) : v.ownBlock ≠ some b := fun e => by
  have h1 := (h.blk e).1
  have h2 := a.lt
  omega
theorem ownr_n {w : World} {m B b : Nat} {v : Value} {t : Nat → Bool} {y s : Nat → Int} (h : OwnR w B v m t y s) (hb : w.heap.size = b) : v.ownBlock ≠ some b := fun e => by
  have h1 := (h.blk e).2
  omega
theorem OwnR.row2 {w : World} {B k : Nat} {v : Value} {n : Nat} {t : Nat → Bool} {y s : Nat → Int} (h : OwnR w B v n t y s) (cs : Array Value) (hk : v.ownBlock ≠ some k) : OwnR (w.setRow k cs) B v n t y s :=
  h.kept fun j _ _ e => Go.setRow_other w k j cs (fun e2 => hk (by rw [← e, e2]))
theorem blk_ne2 {wr : World} {b b' T T' n n' : Nat} {f g : Nat → Int} (h : Blk wr b T n f) (h' : Blk wr b' T' n' g) (hT : T ≠ T') : b ≠ b' := fun e => by
  subst e
  unfold Blk at h h'
  rw [h] at h'
  injection h' with h'
  injection h' with _ h2 _
  exact hT h2
/-- What was told, as a slice that is read. -/
theorem OwnR.told {w : World} {B : Nat} {v : Value} {n : Nat} {t : Nat → Bool} {y s : Nat → Int} (h : OwnR w B v n t y s) : ∃ p cp, v = .slice p n cp ∧ SlcR w p n t y s := by
  rcases h.slc with ⟨rfl, rfl⟩ | ⟨g, cp, rfl, _, _, hc⟩
  · exact ⟨none, 0, rfl, fun k hk => by omega⟩
  · refine ⟨_, cp, rfl, fun k hk => ⟨g, rfl, ?_⟩⟩
    obtain ⟨a, b, c⟩ := rcells_get (t := t) (y := y) (s := s) hk
    exact ⟨hc _ _ a, hc _ _ b, hc _ _ c⟩
theorem awO_two : twoO awO1 awO2 = awO := rfl
theorem awO_rng : ∀ i, -9223372036854775808 ≤ awO i ∧ awO i ≤ 9223372036854775807 := by
  intro i
  have hp : ∀ k j, -9223372036854775808 ≤ pkF k j ∧ pkF k j ≤ 9223372036854775807 := fun k j => by unfold pkF; split <;> decide
  unfold awO awO1 awO2 obF
  split
  · split
    · exact hp _ _
    · split
      · decide
      · split <;> decide
  · split
    · exact hp _ _
    · split
      · decide
      · split <;> decide
theorem awk_all (bc : Nat) (x : World) (k1 : x.cell? ⟨bc, 0, none⟩ = some (.bool false)) (k2 : x.frozen? ⟨bc, 0, none⟩ = false) (lb : Nat) (hb : Blk x lb 29 (27 * 2) awO) :
    Calls Tryz.prog 10 #[.pointer (some ⟨bc, 0, none⟩), .agg (arrv 24 awS), .agg (arrv 300 awC), .slice (some ⟨lb, 0, none⟩) 2 2] x fun e w' =>
      ∃ v, e = .returned (.tuple #[.agg (arrv 24 (alN awS awC awO 2).1), .agg (arrv 300 (alN awS awC awO 2).2), v]) ∧ Upd ⟨bc, 0, none⟩ false x w' ∧ OwnR w' (x.heap.size + 1 + 1 + 1 + 1) v 2 (alT awS awC awO) (alY awO) (alV awS awC awO) := by
  refine (all_any ⟨bc, 0, none⟩ false awS awC awO lb 2 2 x k1 k2 (by omega) (fun _ => hb) awO_rng (some ⟨lb, 0, none⟩) (fun _ => rfl)).mono ?_
  rintro e w' ⟨v, h1, h2, h3⟩
  rw [aw_all.2.2.2] at h2
  exact ⟨v, h1, h2, h3⟩
theorem SlcR.below {w w' : World} {p : Option Addr} {n : Nat} {t : Nat → Bool} {y s : Nat → Int} (h : SlcR w p n t y s) (b : Below w.heap.size w w') : SlcR w' p n t y s := fun k hk => by
  obtain ⟨g, e, c0, c1, c2⟩ := h k hk
  have hg := World.block_lt_of_cell? _ _ c0
  exact ⟨g, e, (b.cell (p := ⟨g, k * 3, none⟩) hg).trans c0, (b.cell (p := ⟨g, k * 3 + 1, none⟩) hg).trans c1, (b.cell (p := ⟨g, k * 3 + 2, none⟩) hg).trans c2⟩
theorem awk_count (p : Option Addr) (cp : Nat) {t : Nat → Bool} {y s : Nat → Int} {w : World} (hL : SlcR w p 2 t y s) (h0 : t 0 = true) (h1 : t 1 = false) :
    Calls Tryz.prog 11 #[.slice p 2 cp] w fun e w' => e = .returned (.tuple #[.int .i64 1, .int .i64 1]) ∧ Below w.heap.size w w' := by
  have h := count_any p 2 cp t y s w (by omega) hL
  have e : cntT t 2 = 1 := by simp [cntT, h0, h1]
  rw [e] at h
  exact h
theorem awk_lik : likB 1073741824 17592186044416 1 = true ∧ likB 1073741825 17592186044416 1 = false := by decide
end Go.Proofs.YtiajjiphknlldaaGreat
/- The equality of two covariances, as numbers. -/
namespace Go.Proofs.YtiajjiphknlldaaGreat
open Go
set_option maxRecDepth 100000
def covB (f g : Nat → Int) : Bool := eqB 276 f g && eqB 24 (fun i => f (276 + i)) (fun i => g (276 + i))
theorem covB_iff {f g : Nat → Int} : covB f g = true ↔ ∀ i, i < 300 → f i = g i := by
  unfold covB
  rw [Bool.and_eq_true, eqB_iff, eqB_iff]
  constructor
  · rintro ⟨h1, h2⟩ i hi
    by_cases h : i < 276
    · exact h1 i h
    · have := h2 (i - 276) (by omega); rwa [show 276 + (i - 276) = i by omega] at this
  · intro h
    exact ⟨fun i hi => h i (by omega), fun i hi => h _ (by omega)⟩
theorem run_part_vec {P : Program} {w : World} {t e : TypeId} {n m : Nat} {i : TypeInfo} (hu : P.underlying t = some (.array n e)) (hi : P.info? t = some i) (hn : i.size = n) (a : Nat) (f : Nat → Int) (h : a + n ≤ m) :
    (part t (arrv m f) a).run P w = .ok (.agg (arrv n fun i => f (a + i))) w := by
  have hagg : (isAgg t).run P w = .ok true w := by
    unfold isAgg
    rw [Sem.run_bind, run_underlying hu w]
    rfl
  have hs : P.cellsOf t = n := by simp [Program.cellsOf, hi, hn]
  unfold part
  simp only [Sem.run_bind, hagg, Result.andThen_ok, if_true, run_sizeOf w hi, hs, Sem.run_pure]
  rw [arrv_extract m a n f h]
theorem run_eqFields_cons {P : Program} {w : World} {d : Nat} {xs ys : Array Value} {f : Field} {fs : List Field} {a b : Value} {r r' : Bool} (hn : f.name ≠ "_") (ha : (part f.type xs f.offset).run P w = .ok a w)
    (hb : (part f.type ys f.offset).run P w = .ok b w) (hr : (Op.equalIn d f.type a b).run P w = .ok r w) (h : (Op.eqFields d xs ys fs).run P w = .ok r' w) : (Op.eqFields d xs ys (f :: fs)).run P w = .ok (r && r') w := by
  simp only [Op.eqFields, if_pos hn, Sem.run_bind, ha, hb, hr, Result.andThen_ok]
  cases r
  · simp
  · simp [h]
theorem fieldsOf_of {P : Program} {t : TypeId} {fs : Array Field} (h : P.underlying t = some (.struct fs)) : P.fieldsOf t = fs := by simp [Program.fieldsOf, h]
theorem run_equalIn_cov (d : Nat) (w : World) (f g : Nat → Int) : (Op.equalIn (d + 3) 26 (.agg (arrv 300 f)) (.agg (arrv 300 g))).run Tryz.prog w = .ok (covB f g) w := by
  have hf := fieldsOf_of Tryz.underlying26
  rw [show d + 3 = (d + 2) + 1 from rfl, run_equalIn_struct w (d + 2) _ _ _ (by rw [hf]; exact Tryz.underlying26) (by kernel_rfl), hf]
  have hi22 : ∃ i, Tryz.prog.info? 24 = some i ∧ i.size = 276 := by
    have h : (Tryz.prog.info? 24).map (·.size) = some 276 := by kernel_rfl
    cases e : Tryz.prog.info? 24 with
    | none => rw [e] at h; cases h
    | some i => rw [e] at h; exact ⟨i, rfl, by simpa using h⟩
  have hi23 : ∃ i, Tryz.prog.info? 22 = some i ∧ i.size = 24 := by
    have h : (Tryz.prog.info? 22).map (·.size) = some 24 := by kernel_rfl
    cases e : Tryz.prog.info? 22 with
    | none => rw [e] at h; cases h
    | some i => rw [e] at h; exact ⟨i, rfl, by simpa using h⟩
  have hi2 : ∃ i, Tryz.prog.info? 2 = some i ∧ i.size = 1 := by
    have h : (Tryz.prog.info? 2).map (·.size) = some 1 := by kernel_rfl
    cases e : Tryz.prog.info? 2 with
    | none => rw [e] at h; cases h
    | some i => rw [e] at h; exact ⟨i, rfl, by simpa using h⟩
  obtain ⟨i22, h22, s22⟩ := hi22
  obtain ⟨i23, h23, s23⟩ := hi23
  obtain ⟨i2, h2, s2⟩ := hi2
  have hc : Tryz.prog.cellsOf 2 = 1 := by simp [Program.cellsOf, h2, s2]
  have p0 := fun f => run_part_vec (w := w) (m := 300) Tryz.underlying24 h22 s22 0 f (by omega)
  have p1 := fun f => run_part_vec (w := w) (m := 300) Tryz.underlying22 h23 s23 276 f (by omega)
  have q0 := fun f g => run_equalIn_vec (w := w) d Tryz.underlying24 Tryz.underlying2 hc h2 f g
  have q1 := fun f g => run_equalIn_vec (w := w) d Tryz.underlying22 Tryz.underlying2 hc h2 f g
  have z : (Op.eqFields (d + 2) (arrv 300 f) (arrv 300 g) []).run Tryz.prog w = .ok true w := by simp [Op.eqFields]
  have e1 := run_eqFields_cons (f := ⟨"D", 22, 276, false, "", "", 2208⟩) (by decide) (p1 f) (p1 g) (q1 _ _) z
  have e0 := run_eqFields_cons (f := ⟨"U", 24, 0, false, "", "", 0⟩) (by decide) (p0 f) (p0 g) (q0 _ _) e1
  refine Eq.trans e0 ?_
  simp [covB]
theorem run_equal_cov (w : World) (f g : Nat → Int) : (Op.equal 26 (.agg (arrv 300 f)) (.agg (arrv 300 g))).run Tryz.prog w = .ok (covB f g) w := run_equalIn_cov 9997 w f g
theorem covB_self (f : Nat → Int) : covB f f = true := covB_iff.2 fun _ _ => rfl
open Go in
/-- '==' of two covariances, at the operation. -/
theorem run_op_eqlCov {o : Oper} {ev : Operand → Value} {w : World} (x y : Operand) (ho : o.op = .binOp .eql 26 x y 26) {f g : Nat → Int} (hx : ev x = .agg (arrv 300 f)) (hy : ev y = .agg (arrv 300 g)) {b : Bool} (hb : covB f g = b) :
    (execOp ev o).run Tryz.prog w = .ok (.value (.bool b)) w := by
  have e := run_equal_cov w f g
  have hG : Tryz.prog.eqGuardType Tryz.prog.depth 26 = false := by kernel_rfl
  unfold execOp
  simp only [ho, hx, hy, eqGuard, binOp, Sem.run_bind, Sem.run_pure, Result.andThen_ok]
  simp [hG, e, hb, go_sem]
end Go.Proofs.YtiajjiphknlldaaGreat
/- '==' of two rows. -/
namespace Go.Proofs.YtiajjiphknlldaaGreat
open Go.RowKit
set_option maxRecDepth 100000
open Go in
theorem wpAnyM_threeS {P : Program} {ops : Array Oper} {Q : Exit → Act → World → Prop} {md : Region.Mode} {L : Nat} {S : World → Prop} (i j l : Nat) {oi oj ol : Oper} {fuel : Nat} {listed : Array Bool} {a : Act} {w : World} (hi : ops.toList[i]? = some oi) (hj : ops.toList[j]? = some oj) (hl : ops.toList[l]? = some ol) (hr : Region.ready md ops listed = [i, j, l])
    (h1 : ∀ K : Act → World → Prop, Shut (∀ a w, S w → (S w → wpAnyM P md ops Q S L fuel (listed.setIfInBounds i true) a w) → K a w) →
      if Region.wanted oi (yielded ops a.tmps) = true then Oper.wp P oi a w K Q else K (a.put oi.dst undef) w)
    (h2 : ∀ K : Act → World → Prop, Shut (∀ a w, S w → (S w → wpAnyM P md ops Q S L fuel (listed.setIfInBounds j true) a w) → K a w) →
      if Region.wanted oj (yielded ops a.tmps) = true then Oper.wp P oj a w K Q else K (a.put oj.dst undef) w)
    (h3 : ∀ K : Act → World → Prop, Shut (∀ a w, S w → (S w → wpAnyM P md ops Q S L fuel (listed.setIfInBounds l true) a w) → K a w) →
      if Region.wanted ol (yielded ops a.tmps) = true then Oper.wp P ol a w K Q else K (a.put ol.dst undef) w) :
    wpAnyM P md ops Q S L (fuel + 1) listed a w := by
  have hi' : ops[i]? = some oi := by rwa [Array.getElem?_toList] at hi
  have hj' : ops[j]? = some oj := by rwa [Array.getElem?_toList] at hj
  have hl' : ops[l]? = some ol := by rwa [Array.getElem?_toList] at hl
  refine ⟨fun h0 => (by rw [hr] at h0; cases h0), fun k hk => ?_⟩
  rw [hr] at hk
  have hk' : k = i ∨ k = j ∨ k = l := by simpa using hk
  rcases hk' with rfl | rfl | rfl
  · exact wpOp_step hi' (fun K' hK => h1 K' (fun a w hS hW => hK a w ⟨.inr hS, hW hS⟩))
  · exact wpOp_step hj' (fun K' hK => h2 K' (fun a w hS hW => hK a w ⟨.inr hS, hW hS⟩))
  · exact wpOp_step hl' (fun K' hK => h3 K' (fun a w hS hW => hK a w ⟨.inr hS, hW hS⟩))
open Go in
/-- An operation that changes the world and gives nothing (a store), by its run: the walk's goal is never looked into. -/
theorem wpAnyM_doneS {P : Program} {ops : Array Oper} {Q : Exit → Act → World → Prop} {md : Region.Mode} {L : Nat} {S : World → Prop} (i : Nat) {o : Oper} {fuel : Nat} {listed : Array Bool} {a : Act} {w w' : World} (ho : ops.toList[i]? = some o) (hr : Region.ready md ops listed = [i])
    (hw : Region.wanted o (yielded ops a.tmps) = true) (hy : (execOp a.eval o).run P w = .ok .skip w') (hS : S w') (h : S w' → wpAnyM P md ops Q S L fuel (listed.setIfInBounds i true) (a.put o.dst undef) w') :
    wpAnyM P md ops Q S L (fuel + 1) listed a w :=
  wpAnyM_oneS i ho hr fun K hK => by
    rw [if_pos hw]
    exact wp_of_run hy (hK.out _ _ hS h)
end Go.Proofs.YtiajjiphknlldaaGreat
/- A region that draws its order, where several operations may come first: the orders that have done the same set of operations are walked once from there ('share'). -/
namespace Go.Proofs.YtiajjiphknlldaaGreat
open Go
/-- What is asked at several places, shown once: T is found at the first of them. -/
inductive Shr (T : Prop) : Prop where
  | mk (out : T) : Shr T
theorem Shr.out {T : Prop} : Shr T → T := fun ⟨h⟩ => h
theorem share {T G : Prop} (h : Shr T → G) (p : T) : G := h ⟨p⟩
theorem wpAnyM_fourS {P : Program} {ops : Array Oper} {Q : Exit → Act → World → Prop} {md : Region.Mode} {L : Nat} {S : World → Prop} (i j l m : Nat) {oi oj ol om : Oper} {fuel : Nat} {listed : Array Bool} {a : Act} {w : World} (hi : ops.toList[i]? = some oi) (hj : ops.toList[j]? = some oj) (hl : ops.toList[l]? = some ol) (hm : ops.toList[m]? = some om) (hr : Region.ready md ops listed = [i, j, l, m])
    (h1 : ∀ K : Act → World → Prop, Shut (∀ a w, S w → (S w → wpAnyM P md ops Q S L fuel (listed.setIfInBounds i true) a w) → K a w) →
      if Region.wanted oi (yielded ops a.tmps) = true then Oper.wp P oi a w K Q else K (a.put oi.dst undef) w)
    (h2 : ∀ K : Act → World → Prop, Shut (∀ a w, S w → (S w → wpAnyM P md ops Q S L fuel (listed.setIfInBounds j true) a w) → K a w) →
      if Region.wanted oj (yielded ops a.tmps) = true then Oper.wp P oj a w K Q else K (a.put oj.dst undef) w)
    (h3 : ∀ K : Act → World → Prop, Shut (∀ a w, S w → (S w → wpAnyM P md ops Q S L fuel (listed.setIfInBounds l true) a w) → K a w) →
      if Region.wanted ol (yielded ops a.tmps) = true then Oper.wp P ol a w K Q else K (a.put ol.dst undef) w)
    (h4 : ∀ K : Act → World → Prop, Shut (∀ a w, S w → (S w → wpAnyM P md ops Q S L fuel (listed.setIfInBounds m true) a w) → K a w) →
      if Region.wanted om (yielded ops a.tmps) = true then Oper.wp P om a w K Q else K (a.put om.dst undef) w) :
    wpAnyM P md ops Q S L (fuel + 1) listed a w := by
  have hi' : ops[i]? = some oi := by rwa [Array.getElem?_toList] at hi
  have hj' : ops[j]? = some oj := by rwa [Array.getElem?_toList] at hj
  have hl' : ops[l]? = some ol := by rwa [Array.getElem?_toList] at hl
  have hm' : ops[m]? = some om := by rwa [Array.getElem?_toList] at hm
  refine ⟨fun h0 => (by rw [hr] at h0; cases h0), fun k hk => ?_⟩
  rw [hr] at hk
  have hk' : k = i ∨ k = j ∨ k = l ∨ k = m := by simpa using hk
  rcases hk' with rfl | rfl | rfl | rfl
  · exact wpOp_step hi' (fun K' hK => h1 K' (fun a w hS hW => hK a w ⟨.inr hS, hW hS⟩))
  · exact wpOp_step hj' (fun K' hK => h2 K' (fun a w hS hW => hK a w ⟨.inr hS, hW hS⟩))
  · exact wpOp_step hl' (fun K' hK => h3 K' (fun a w hS hW => hK a w ⟨.inr hS, hW hS⟩))
  · exact wpOp_step hm' (fun K' hK => h4 K' (fun a w hS hW => hK a w ⟨.inr hS, hW hS⟩))
end Go.Proofs.YtiajjiphknlldaaGreat
