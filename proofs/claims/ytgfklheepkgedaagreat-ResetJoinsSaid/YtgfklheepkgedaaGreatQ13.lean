/- Contracts of the program's functions and plain laws, part 13: they hold for all arguments. -/
import Derived.Test.YtgfklheepkgedaaGreatQ09
import Derived.Test.YtgfklheepkgedaaGreatQ12
import Derived.Test.YtgfklheepkgedaaGreatQ06
import Derived.Test.YtgfklheepkgedaaGreatQ05
import Derived.Test.YtgfklheepkgedaaGreatQ04
import Derived.Test.YtgfklheepkgedaaGreatQ03
import Derived.Test.YtgfklheepkgedaaGreatQ10
import Derived.Test.YtgfklheepkgedaaGreatQ08
/- What package reset's jumps need: a whole vector as a slice, copy into the middle of a row, three rows as results, what is told; contract of reset.Nothing. -/
namespace Go.Proofs.YtgfklheepkgedaaGreat
open Go.RowKit
set_option maxRecDepth 100000
theorem vlen : Tryz.prog.arrayLen 28 = 3 := by kernel_rfl
theorem vund : Tryz.prog.underlying 28 = some (.array (Tryz.prog.arrayLen 28) (Tryz.prog.elem 28)) := by kernel_rfl
open Go in
/-- v[:] of a vector, wherever it lies. -/
theorem run_slice_v {o : Oper} {ev : Operand → Value} {w : World} (x : Operand) (ho : o.op = .slice 28 x none none none) (g off : Nat) (hx : ev x = .pointer (some ⟨g, off, none⟩)) :
    (execOp ev o).run Tryz.prog w = .ok (.value (.slice (some ⟨g, off, none⟩) 3 3)) w := by
  have h := run_sliceAt_array_all (P := Tryz.prog) w 28 ⟨g, off, none⟩ vund
  unfold execOp
  simp only [ho, hx, Option.map_none]
  rw [Sem.run_bind, h]
  have hs : (sizeOf (Tryz.prog.elem 28)).run Tryz.prog w = .ok 1 w := by rw [show Tryz.prog.elem 28 = 2 from by kernel_rfl]; simp [go_sem]
  rw [hs, vlen]
  simp [slicedAt, go_sem]
open Go in
/-- v[2:] of a vector. -/
theorem run_slice_v2 {o : Oper} {ev : Operand → Value} {w : World} (x : Operand) (ho : o.op = .slice 28 x (some (.const (.int .i64 2))) none none) (hc : ev (.const (.int .i64 2)) = .int .i64 2) (g off : Nat) (hx : ev x = .pointer (some ⟨g, off, none⟩)) :
    (execOp ev o).run Tryz.prog w = .ok (.value (.slice (some ⟨g, off + 2, none⟩) 1 1)) w := by
  have h := run_sliceAt_array_l (P := Tryz.prog) w 28 ⟨g, off, none⟩ vund .i64 2 (by omega) (by rw [vlen]; omega)
  unfold execOp
  simp only [ho, hx, hc, Option.map_none, Option.map_some]
  rw [Sem.run_bind, h]
  have hs : (sizeOf (Tryz.prog.elem 28)).run Tryz.prog w = .ok 1 w := by rw [show Tryz.prog.elem 28 = 2 from by kernel_rfl]; simp [go_sem]
  rw [hs, vlen]
  simp [slicedAt, go_sem, Addr.add]
/-- A row with numbers put into its middle. -/
def midF (T : Nat → Int) (off m : Nat) (D : Nat → Int) : Nat → Int := fun i => if off ≤ i ∧ i < off + m then D (i - off) else T i
theorem splice_mid (T D : Nat → Int) (n off m : Nat) (h : off + m ≤ n) : (splice (arrv n T).toList off (ints m D)).toArray = arrv n (midF T off m D) := by
  apply Array.ext_getElem?
  intro i
  simp only [splice, List.getElem?_toArray, List.getElem?_append, List.getElem?_drop, List.getElem?_take, Array.getElem?_toList, List.length_take, Array.length_toList, arrv_size, ints_length, List.length_append]
  by_cases hi : i < n
  · have e : (arrv n (midF T off m D))[i]? = some (.int .i64 (midF T off m D i)) := arrv_get hi
    rw [e]
    unfold midF
    by_cases h1 : i < off
    · rw [if_pos (by omega), if_pos h1, arrv_get hi, if_neg (by omega)]
    · rw [if_neg (by omega)]
      by_cases h2 : i < off + m
      · rw [if_pos (by omega), show i - min off n = i - off by omega, ints_get (by omega), if_pos (by omega)]
      · rw [if_neg (by omega), if_neg (by omega), show off + m + (i - min off n - m) = i by omega, arrv_get hi]
  · rw [if_neg (by omega), if_neg (by omega), Array.getElem?_eq_none (by rw [arrv_size]; omega), Array.getElem?_eq_none (by rw [arrv_size]; omega)]
open Go in
/-- copy of a call's own slice into the middle of a row. -/
theorem wpList_copy_mid {w : World} {ops : Array Oper} {rest : List Oper} {o : Oper} {a : Act} {Q : Exit → Act → World → Prop} (hgd : o.guard = none) (d s : Operand)
    (ho : o.op = .call { callee := .builtin .copy, args := #[d, s], argTypes := #[71, 71] })
    (g off dl dc : Nat) (hd : a.eval d = .slice (some ⟨g, off, none⟩) dl dc) {B : Nat} {v : Value} (m : Nat) (D : Nat → Int) (hs : a.eval s = v) (hown : Own w B 2 v m D) (hm : 0 < m) (hml : m ≤ dl) (hml2 : dl ≤ 1000)
    (t n : Nat) (T : Nat → Int) (hg : Blk w g t n T) (hfit : off + m ≤ n)
    (h : wpList Tryz.prog ops Q rest (a.put o.dst (.int .i64 (m : Int))) (w.setRow g (arrv n (midF T off m D)))) : wpList Tryz.prog ops Q (o :: rest) a w := by
  obtain ⟨sg, cp, rfl, _, _, hc⟩ := hown.slc hm
  have hlen : (ints m D).length = m := ints_length m D
  have hrun := run_copy_row (P := Tryz.prog) w 71 71 o.type 2 g off dl dc ⟨sg, 0, none⟩ m cp (arrv n T) t (ints m D) Tryz.underlying71 (by kernel_rfl) hg (by rw [hlen]; exact (Nat.min_eq_left hml).symm)
    (fun j u hu => by
      have hj : j < m := by
        have := (List.getElem?_eq_some_iff.1 hu).1
        simpa [ints_length] using this
      rw [ints_get hj] at hu
      injection hu with hu
      subst hu
      have hcj := hc j hj
      rw [Nat.zero_add] at hcj
      by_cases h0 : j = 0
      · subst h0; simpa [Addr.add] using hcj
      · simpa [Addr.add, h0] using hcj) (by rw [hlen, arrv_size]; exact hfit) (fun u hu => by
      obtain ⟨j, hj, rfl⟩ := List.mem_map.1 hu
      rfl)
  have e : (splice (arrv n T).toList off (ints m D)).toArray = arrv n (midF T off m D) := splice_mid T D n off m hfit
  refine wpList_plain hgd fun K hK => ?_
  unfold Oper.wp
  have e2 : (splice (arrv n T).toList off (ints m D)) = List.take off (arrv n T).toList ++ (ints m D ++ List.drop (off + (ints m D).length) (arrv n T).toList) := rfl
  rw [e2, hlen] at e
  simp [execOp, ho, resolve, invoke, builtin, hd, hs, hrun, Result.andThen, hlen, goInt]
  rw [e]
  exact hK _ _ h
open Go in
/-- The results of a function that gives three rows. -/
theorem results_rows3 {P : Program} {fn : Func} {p q u : Tmp} {ty ty' ty2 : TypeId} (h : fn.results = #[.cell p ty, .cell q ty', .cell u ty2]) (tmps : Array Value) (w : World) (g g' g2 : Nat) (t t' t2 : TypeId) (cs cs' cs2 : Array Value) (fr fr' fr2 : Nat × Nat) (d d' d2 : TypeDesc)
    (hp : tmps.getD p undef = .pointer (some ⟨g, 0, none⟩)) (hg : w.heap[g]? = some (.cells cs t fr))
    (hu : P.underlying ty = some d) (hd : (match d with | .struct _ | .array _ _ => true | _ => false) = true) (hi : (P.info? ty).map (·.size) = some cs.size)
    (hp' : tmps.getD q undef = .pointer (some ⟨g', 0, none⟩)) (hg' : w.heap[g']? = some (.cells cs' t' fr'))
    (hu' : P.underlying ty' = some d') (hd' : (match d' with | .struct _ | .array _ _ => true | _ => false) = true) (hi' : (P.info? ty').map (·.size) = some cs'.size)
    (hp2 : tmps.getD u undef = .pointer (some ⟨g2, 0, none⟩)) (hg2 : w.heap[g2]? = some (.cells cs2 t2 fr2))
    (hu2 : P.underlying ty2 = some d2) (hd2 : (match d2 with | .struct _ | .array _ _ => true | _ => false) = true) (hi2 : (P.info? ty2).map (·.size) = some cs2.size) :
    (results fn tmps).run P w = .ok (.tuple #[.agg cs, .agg cs', .agg cs2]) w := by
  have e1 : tmps[p]?.getD undef = .pointer (some ⟨g, 0, none⟩) := by simpa using hp
  have e2 : tmps[q]?.getD undef = .pointer (some ⟨g', 0, none⟩) := by simpa using hp'
  have e3 : tmps[u]?.getD undef = .pointer (some ⟨g2, 0, none⟩) := by simpa using hp2
  simp [results, h, e1, e2, e3, asAddr, run_loadVar_row w g t ty cs fr d hg hu hd hi, run_loadVar_row w g' t' ty' cs' fr' d' hg' hu' hd' hi', run_loadVar_row w g2 t2 ty2 cs2 fr2 d2 hg2 hu2 hd2 hi2]
theorem idl : (Tryz.prog.info? 40).map (·.size) = some 10 := by kernel_rfl
theorem itd : (Tryz.prog.info? 42).map (·.size) = some 11 := by kernel_rfl
theorem zdl : (#[.int .i64 0, .int .i64 0, .int .i64 0, .int .i64 0, .int .i64 0, .int .i64 0, .int .i64 0, .int .i64 0, .int .i64 0, .int .i64 0] : Array Value) = arrv 10 (fun _ => 0) := by kernel_rfl
theorem ztd : (#[.int .i64 0, .int .i64 0, .int .i64 0, .int .i64 0, .int .i64 0, .int .i64 0, .int .i64 0, .int .i64 0, .int .i64 0, .int .i64 0, .int .i64 0] : Array Value) = arrv 11 (fun _ => 0) := by kernel_rfl
/-- No jump. -/
def dl0 : Nat → Int := fun i => if i = 0 then 1073741824 else 0
/-- A jump of a kind. -/
def tdF (d : Nat → Int) (k : Int) : Nat → Int := fun i => if i < 10 then d i else k
open Go in
theorem run_build_dl {o : Oper} {ev : Operand → Value} {w : World} (x : Operand) (ho : o.op = .build 40 #[(0, x)]) {f : Nat → Int} (hx : ev x = .agg (arrv 4 f)) :
    (execOp ev o).run Tryz.prog w = .ok (.value (.agg (arrv 10 (fun i => if i < 4 then f i else 0)))) w := by
  unfold execOp
  simp only [ho, List.map_toArray, List.map_cons, List.map_nil, hx]
  kernel_rfl
open Go in
theorem run_build_td {o : Oper} {ev : Operand → Value} {w : World} (x : Operand) (k : Int) (ho : o.op = .build 42 #[(0, x), (1, .const (.int .i64 k))]) (hk : ev (.const (.int .i64 k)) = .int .i64 k) {f : Nat → Int} (hx : ev x = .agg (arrv 10 f)) :
    (execOp ev o).run Tryz.prog w = .ok (.value (.agg (arrv 11 (tdF f k)))) w := by
  unfold execOp
  simp only [ho, List.map_toArray, List.map_cons, List.map_nil, hx, hk]
  kernel_rfl
theorem nothing_any (w : World) : Calls Tryz.prog 19 #[] w fun e w' => e = .returned (.agg (arrv 10 dl0)) ∧ Below w.heap.size w w' := by
  have R0 := Lib.hid (show Blk (w.alloc (.cells #[.int .i64 0, .int .i64 0, .int .i64 0, .int .i64 0, .int .i64 0, .int .i64 0, .int .i64 0, .int .i64 0, .int .i64 0, .int .i64 0] 40)) w.heap.size 40 10 (fun _ => 0) by rw [zdl]; exact Blk.new _ _ _ _)
  have B0 := Lib.hid (show Below w.heap.size w (w.alloc (.cells #[.int .i64 0, .int .i64 0, .int .i64 0, .int .i64 0, .int .i64 0, .int .i64 0, .int .i64 0, .int .i64 0, .int .i64 0, .int .i64 0] 40)) by (repeat (first | with_reducible exact Below.refl _ _ | with_reducible apply Below.drew | (with_reducible refine below_drewN ?_ _) | (with_reducible refine Below.alloc ?_ (by (try simp) <;> omega) _) | (with_reducible refine Below.setCell ?_ (by (try simp) <;> omega) _))))
  have E0 := Lib.hid (show arrv 10 (fun i => if i < 4 then oneQ i else 0) = arrv 10 dl0 from arrv_congr (by decide))
  go_enter Tryz.func19, Tryz.ntmps19
  go_upto_region 1 with fail
  generalize w.alloc (.cells #[.int .i64 0, .int .i64 0, .int .i64 0, .int .i64 0, .int .i64 0, .int .i64 0, .int .i64 0, .int .i64 0, .int .i64 0, .int .i64 0] 40) = W0 at *
  refine wp_region_lit ?_
  refine wpList_step (fun K hK => ?_)
  go_simp
  (refine (qone_any _).mono ?_); rintro e w1 ⟨rfl, hb⟩; have R1 := Lib.hid (R0.out.below hb); have B1 := Lib.hid (Below.after B0.out hb); clear hb R0 B0
  (try dsimp only)
  (try simp only [Act.put, nA, nB, nC])
  refine hK _ _ ?_
  clear hK K
  refine wpList_val (v := ?_) rfl ?_ ?_
  rotate_left
  · (refine Eq.trans (run_build_dl (.tmp 1) (by rfl) (by rfl)) ?_; with_reducible rfl)
  (try simp only [Act.put, nA, nB, nC])
  refine wpList_done (w' := ?_) rfl ?_ ?_
  rotate_left
  · (refine Eq.trans (run_store_row 40 (.tmp 0) (.tmp 2) (by rfl) (w.heap.size) (by rfl) (by rfl) (R1.out) (idl.trans rfl)) ?_; with_reducible rfl)
  (try simp only [Act.put, nA, nB, nC])
  refine wpList_nil ?_
  rw [E0.out]
  have D1 := Lib.hid (R1.out.setRow dl0)
  have B2 := Lib.hid (below_row B1.out (Nat.le_refl _) (arrv 10 dl0))
  generalize w1.setRow w.heap.size (arrv 10 dl0) = W2 at *
  go_wp2_with fail
  refine bodyPost_ret (results_cell_row Tryz.results19 _ _ w.heap.size 40 (arrv 10 dl0) (0, 0) _ rfl D1.out Tryz.underlying40 rfl (idl.trans (by rw [arrv_size]))) rfl ⟨rfl, B2.out⟩
end Go.Proofs.YtgfklheepkgedaaGreat
/- Numbers stored inside a block. -/
namespace Go.Proofs.YtgfklheepkgedaaGreat
open Go.RowKit
def putF (f : Nat → Int) (o n : Nat) (F : Nat → Int) : Nat → Int := fun i => if o ≤ i ∧ i < o + n then F (i - o) else f i
theorem arrv_splice (N o n : Nat) (f F : Nat → Int) (h : o + n ≤ N) : ((arrv N f).toList.take o ++ (arrv n F).toList ++ (arrv N f).toList.drop (o + n)).toArray = arrv N (putF f o n F) := by
  have l1 : ((arrv N f).toList.take o ++ (arrv n F).toList ++ (arrv N f).toList.drop (o + n)).length = N := by simp [arrv_size]; omega
  apply Array.ext_getElem?
  intro i
  by_cases hi : i < N
  · rw [arrv_get hi]
    unfold putF
    simp only [List.getElem?_toArray]
    by_cases h1 : i < o
    · rw [if_neg (by omega), List.append_assoc, List.getElem?_append_left (by simp [arrv_size]; omega), List.getElem?_take, if_pos h1, Array.getElem?_toList, arrv_get hi]
    · by_cases h2 : i < o + n
      · rw [if_pos (by omega), List.getElem?_append_left (by simp [arrv_size]; omega), List.getElem?_append_right (by simp [arrv_size]; omega)]
        simp only [List.length_take, Array.length_toList, arrv_size, Array.getElem?_toList]
        rw [show i - min o N = i - o by omega, arrv_get (by omega)]
      · rw [if_neg (by omega), List.getElem?_append_right (by simp [arrv_size]; omega)]
        simp only [List.length_append, List.length_take, Array.length_toList, arrv_size, List.getElem?_drop, Array.getElem?_toList]
        rw [show o + n + (i - (min o N + n)) = i by omega, arrv_get hi]
  · rw [Array.getElem?_eq_none (xs := arrv N _) (by rw [arrv_size]; omega), Array.getElem?_eq_none (by simp only [List.size_toArray]; omega)]
open Go in
theorem run_storeCells_sub {P : Program} {w : World} {g T N : Nat} {f : Nat → Int} (F : Nat → Int) (o n : Nat) (h : Blk w g T N f) (hon : o + n ≤ N) :
    (storeCells ⟨g, o, none⟩ (arrv n F).toList).run P w = .ok () (w.setRow g (arrv N (putF f o n F))) := by
  have e := run_storeCells_at (P := P) g o T (arrv n F).toList 0 (arrv N f) w h (by simp [arrv_size]; omega) (fun v hv => (Array.all_eq_true'.1 (oneCell_arrv n F)) v (by simpa using hv))
  rw [e]
  congr 2
  simp only [Nat.add_zero, Array.length_toList, arrv_size]
  exact arrv_splice N o n f F hon
open Go in
theorem run_store_sub {P : Program} {ev : Operand → Value} {o' : Oper} {w : World} (ty : TypeId) (x y : Operand) (ho : o'.op = .store ty x y)
    (g o : Nat) (hx : ev x = .pointer (some ⟨g, o, none⟩)) {T N n : Nat} {F f : Nat → Int} (hy : ev y = .agg (arrv n F)) (hg : Blk w g T N f) (hon : o + n ≤ N) (hi : (P.info? ty).map (·.size) = some n) :
    (execOp ev o').run P w = .ok .skip (w.setRow g (arrv N (putF f o n F))) := by
  have h := run_storeCells_sub (P := P) F o n hg hon
  have hs : (storeVar ty ⟨g, o, none⟩ (.agg (arrv n F))).run P w = .ok () (w.setRow g (arrv N (putF f o n F))) := by
    cases hq : P.info? ty with
    | none => simp [hq] at hi
    | some i =>
      have hs : n = i.size := by simp [hq] at hi; omega
      have hz : (arrv n F).size = i.size := by rw [arrv_size]; exact hs
      simp [storeVar, sizeOf, typeInfo, hq, Value.cells, hz, h]
  unfold execOp
  simp only [ho, hx, hy, Instr.storeAt, Instr.sureAddr, Sem.run_bind, Sem.run_pure, Result.andThen_ok, hs]
end Go.Proofs.YtgfklheepkgedaaGreat
/- A region that draws its order: one of three may come up. -/
namespace Go.Proofs.YtgfklheepkgedaaGreat
open Go.RowKit
set_option maxRecDepth 100000
open Go in
theorem wpAnyM_threeS {P : Program} {ops : Array Oper} {Q : Exit → Act → World → Prop} {md : Region.Mode} {L : Nat} {S : World → Prop} (i j l : Nat) {oi oj ol : Oper} {fuel : Nat} {listed : Array Bool} {a : Act} {w : World} (hi : ops.toList[i]? = some oi) (hj : ops.toList[j]? = some oj) (hl : ops.toList[l]? = some ol) (hr : Region.ready md ops listed = [i, j, l])
    (h1 : ∀ K : Act → World → Prop, Shut (∀ a w, S w → (S w → wpAnyM P md ops Q S L fuel (listed.setIfInBounds i true) a w) → K a w) →
      if Region.wanted oi (yielded ops a.tmps) = true then Oper.wp P oi a w K Q else K (a.put oi.dst undef) w)
    (h2 : ∀ K : Act → World → Prop, Shut (∀ a w, S w → (S w → wpAnyM P md ops Q S L fuel (listed.setIfInBounds j true) a w) → K a w) →
      if Region.wanted oj (yielded ops a.tmps) = true then Oper.wp P oj a w K Q else K (a.put oj.dst undef) w)
    (h3 : ∀ K : Act → World → Prop, Shut (∀ a w, S w → (S w → wpAnyM P md ops Q S L fuel (listed.setIfInBounds l true) a w) → K a w) →
      if Region.wanted ol (yielded ops a.tmps) = true then Oper.wp P ol a w K Q else K (a.put ol.dst undef) w) :
    wpAnyM P md ops Q S L (fuel + 1) listed a w := by
  have hi' : ops[i]? = some oi := by rwa [Array.getElem?_toList] at hi
  have hj' : ops[j]? = some oj := by rwa [Array.getElem?_toList] at hj
  have hl' : ops[l]? = some ol := by rwa [Array.getElem?_toList] at hl
  refine ⟨fun h0 => (by rw [hr] at h0; cases h0), fun k hk => ?_⟩
  rw [hr] at hk
  have hk' : k = i ∨ k = j ∨ k = l := by simpa using hk
  rcases hk' with rfl | rfl | rfl
  · exact wpOp_step hi' (fun K' hK => h1 K' (fun a w hS hW => hK a w ⟨.inr hS, hW hS⟩))
  · exact wpOp_step hj' (fun K' hK => h2 K' (fun a w hS hW => hK a w ⟨.inr hS, hW hS⟩))
  · exact wpOp_step hl' (fun K' hK => h3 K' (fun a w hS hW => hK a w ⟨.inr hS, hW hS⟩))
end Go.Proofs.YtgfklheepkgedaaGreat
/- Contract of reset.Join. -/
namespace Go.Proofs.YtgfklheepkgedaaGreat
open Go.RowKit
set_option maxRecDepth 100000
/-- The turn behind k jumps, the flags, what is told. -/
def jnT (L : Nat → Nat → Int) : Nat → Nat → Int | 0 => oneQ | k + 1 => uniV (qmV (L k) (jnT L k))
def jnB (L : Nat → Nat → Int) (k : Nat) : Bool := qmH (L k) (jnT L k) || uniH (qmV (L k) (jnT L k))
def jnO (L : Nat → Nat → Int) (k : Nat) : Nat → Int := fun i => if i < 4 then jnT L k i else 0
def jnV (L : Nat → Nat → Int) : Nat → Nat → Int := fun i j => L i (4 + j)
def jnP (L : Nat → Nat → Int) : Nat → Nat → Int := fun i j => L i (7 + j)
def jnR (L : Nat → Nat → Int) (n : Nat) : Nat → Int := putF (putF (jnO L n) 4 3 (vaV (jnV L) n)) 7 3 (vaV (jnP L) n)
def jnH (h : Bool) (L : Nat → Nat → Int) (n : Nat) : Bool := h || orB (jnB L) n || orB (vaH (jnV L) n) 3 || orB (vaH (jnP L) n) 3
/-- vec.Add of a call's own slice. -/
theorem vaddO_any (c : Addr) (h : Bool) {B : Nat} {v : Value} {n : Nat} {L : Nat → Nat → Int} (w : World) (ho : OwnV w B v n L) (hc : w.cell? c = some (.bool h)) (hf : w.frozen? c = false) (hn : n ≤ 100) (hz : n = 0 → v = .slice none 0 0) :
    Calls Tryz.prog 37 #[.pointer (some c), v] w fun e w' => e = .returned (.agg (arrv 3 (vaV L n))) ∧ Upd c (h || orB (vaH L n) 3) w w' := by
  rcases Nat.eq_zero_or_pos n with rfl | h0
  · rw [hz rfl, show (h || orB (vaH L 0) 3) = h by rw [show orB (vaH L 0) 3 = false by simp [orB, vaH, sumB, sumS]; decide, Bool.or_false], show vaV L 0 = (fun _ => 0) from funext fun i => (show satV 0 = 0 by decide)]
    exact vadd0_any c h w hc hf
  · rcases ho.slc with ⟨e, _⟩ | ⟨g, cp, rfl, _, _, hl⟩
    · omega
    · exact vadd_any c h g 0 cp n L w hc hf h0 hn hl
/-- The blocks of Join: its result, the sum so far, the velocities and the places. -/
structure JnR (c : Addr) (h : Bool) (ob : Nat) (O : Nat → Int) (a : Value) (ka : Nat) (b : Value) (kb : Nat) (LV LP : Nat → Nat → Int) (w wr : World) : Prop where
  upd : Upd c h w wr
  r : Blk wr w.heap.size 40 10 (fun _ => 0)
  o : Blk wr ob 40 10 O
  va : OwnV wr (ob + 1) a ka LV
  vb : OwnV wr (ob + 1) b kb LP
  ne : ∀ g, a.ownBlock = some g → b.ownBlock ≠ some g
  lt : w.heap.size < ob
section
variable {c : Addr} {h h' : Bool} {ob db xb : Nat} {O D X : Nat → Int} {a a' b b' : Value} {ka kb : Nat} {LV LP : Nat → Nat → Int} {w wr w' : World}
theorem JnR.down (s : JnR c h ob O a ka b kb LV LP w wr) (u : Below wr.heap.size wr w') : JnR c h ob O a ka b kb LV LP w w' := ⟨s.upd.then u, s.r.below u, s.o.below u, s.va.below u, s.vb.below u, s.ne, s.lt⟩
theorem JnR.upd' (s : JnR c h ob O a ka b kb LV LP w wr) (hc : c.block < w.heap.size) (u : Upd c h' wr w') : JnR c h' ob O a ka b kb LV LP w w' := by
  have := s.lt
  exact ⟨s.upd.trans u, s.r.upd u (by omega), s.o.upd u (by omega), s.va.upd u (by omega), s.vb.upd u (by omega), s.ne, s.lt⟩
theorem JnR.setO (s : JnR c h ob O a ka b kb LV LP w wr) (P : Nat → Int) : JnR c h ob P a ka b kb LV LP w (wr.setRow ob (arrv 10 P)) := by
  have := s.lt
  exact ⟨s.upd.then' (below_row (Below.refl _ _) (by omega) _), s.r.setRow_other _ (by omega), s.o.setRow P, s.va.row _ (fun e => by have := (s.va.blk e).1; omega), s.vb.row _ (fun e => by have := (s.vb.blk e).1; omega), s.ne, s.lt⟩
/-- .. and the jump that is looked at. -/
structure JdR (c : Addr) (h : Bool) (ob db : Nat) (O D : Nat → Int) (a : Value) (ka : Nat) (b : Value) (kb : Nat) (LV LP : Nat → Nat → Int) (w wr : World) : Prop where
  j : JnR c h ob O a ka b kb LV LP w wr
  d : Blk wr db 40 10 D
  na : a.ownBlock ≠ some db
  nb : b.ownBlock ≠ some db
  dl : ob < db
theorem JdR.down (s : JdR c h ob db O D a ka b kb LV LP w wr) (u : Below wr.heap.size wr w') : JdR c h ob db O D a ka b kb LV LP w w' := ⟨s.j.down u, s.d.below u, s.na, s.nb, s.dl⟩
theorem JdR.drew (s : JdR c h ob db O D a ka b kb LV LP w wr) : JdR c h ob db O D a ka b kb LV LP w wr.drew := s.down (Below.drew (Below.refl _ _))
theorem JdR.upd' (s : JdR c h ob db O D a ka b kb LV LP w wr) (hc : c.block < w.heap.size) (u : Upd c h' wr w') : JdR c h' ob db O D a ka b kb LV LP w w' := by
  have := s.j.lt
  have := s.dl
  exact ⟨s.j.upd' hc u, s.d.upd u (by omega), s.na, s.nb, s.dl⟩
theorem JdR.setO (s : JdR c h ob db O D a ka b kb LV LP w wr) (P : Nat → Int) : JdR c h ob db P D a ka b kb LV LP w (wr.setRow ob (arrv 10 P)) := by
  have := s.dl
  exact ⟨s.j.setO P, s.d.setRow_other _ (by omega), s.na, s.nb, s.dl⟩
theorem jd_new (s : JnR c h ob O a ka b kb LV LP w wr) (D : Nat → Int) : JdR c h ob wr.heap.size O D a ka b kb LV LP w ((wr.alloc (.cells #[.int .i64 0, .int .i64 0, .int .i64 0, .int .i64 0, .int .i64 0, .int .i64 0, .int .i64 0, .int .i64 0, .int .i64 0, .int .i64 0] 40)).setRow wr.heap.size (arrv 10 D)) := by
  have z := s.o.lt
  have bl : Below wr.heap.size wr ((wr.alloc (.cells #[.int .i64 0, .int .i64 0, .int .i64 0, .int .i64 0, .int .i64 0, .int .i64 0, .int .i64 0, .int .i64 0, .int .i64 0, .int .i64 0] 40)).setRow wr.heap.size (arrv 10 D)) := below_row ((Below.refl _ _).alloc (Nat.le_refl _) _) (Nat.le_refl _) _
  refine ⟨s.down bl, ?_, fun e => by have := (s.va.blk e).2; omega, fun e => by have := (s.vb.blk e).2; omega, z⟩
  rw [zdl]
  exact (Blk.new _ _ _ _).setRow _
/-- A block of one vector that is to be appended. -/
def XbR (xb : Nat) (X : Nat → Int) (a b : Value) (wr : World) : Prop := Blk wr xb 28 3 X ∧ a.ownBlock ≠ some xb ∧ b.ownBlock ≠ some xb
theorem XbR.down (s : XbR xb X a b wr) (u : Below wr.heap.size wr w') : XbR xb X a b w' := ⟨s.1.below u, s.2⟩
theorem jd_x (s : JdR c h ob db O D a ka b kb LV LP w wr) (X : Nat → Int) : JdR c h ob db O D a ka b kb LV LP w (wr.alloc (.cells (arrv 3 X) 28)) ∧ XbR wr.heap.size X a b (wr.alloc (.cells (arrv 3 X) 28)) :=
  ⟨s.down ((Below.refl _ _).alloc (Nat.le_refl _) _), Blk.new _ _ _ _, fun e => by have := (s.j.va.blk e).2; omega, fun e => by have := (s.j.vb.blk e).2; omega⟩
theorem jd_appA (s : JdR c h ob db O D a ka b kb LV LP w wr) (g : wr.grownBy w' a.ownBlock) {gg n cap H : Nat} (ho : OwnV w' (ob + 1) (.slice (some ⟨gg, 0, none⟩) n cap) (ka + 1) LV) (hat : a.ownBlock = some gg ∨ gg = H) (hH : wr.heap.size = H) :
    JdR c h ob db O D (.slice (some ⟨gg, 0, none⟩) n cap) (ka + 1) b kb LV LP w w' := by
  have hlt := s.j.lt
  have hb : ∀ k, k < wr.heap.size → a.ownBlock ≠ some k → w'.heap[k]? = wr.heap[k]? := fun k hl hn => g.block k hl (fun e => hn e.symm)
  have own : ∀ k, k < ob + 1 → a.ownBlock ≠ some k := fun k hk e => by have := (s.j.va.blk e).1; omega
  refine ⟨⟨s.j.upd.then' (below_grown (Below.refl _ _) g (fun k e => by have := (s.j.va.blk e).1; omega) s.j.upd.size), ?_, ?_, ho, s.j.vb.grown g (fun k hk e => s.j.ne k e hk), ?_, hlt⟩, ?_, ?_, s.nb, s.dl⟩
  · exact (hb _ s.j.r.lt (own _ (by omega))).trans s.j.r
  · exact (hb _ s.j.o.lt (own _ (by omega))).trans s.j.o
  · intro k hk
    have hk' : gg = k := by simpa [Value.ownBlock] using hk
    subst hk'
    rcases hat with e | e
    · exact s.j.ne _ e
    · intro e2; have := (s.j.vb.blk e2).2; omega
  · exact (hb _ s.d.lt s.na).trans s.d
  · intro e
    have hk' : gg = db := by simpa [Value.ownBlock] using e
    subst hk'
    rcases hat with e | e
    · exact s.na e
    · have := s.d.lt; omega
theorem jd_appB (s : JdR c h ob db O D a ka b kb LV LP w wr) (g : wr.grownBy w' b.ownBlock) {gg n cap H : Nat} (ho : OwnV w' (ob + 1) (.slice (some ⟨gg, 0, none⟩) n cap) (kb + 1) LP) (hat : b.ownBlock = some gg ∨ gg = H) (hH : wr.heap.size = H) :
    JdR c h ob db O D a ka (.slice (some ⟨gg, 0, none⟩) n cap) (kb + 1) LV LP w w' := by
  have hlt := s.j.lt
  have hb : ∀ k, k < wr.heap.size → b.ownBlock ≠ some k → w'.heap[k]? = wr.heap[k]? := fun k hl hn => g.block k hl (fun e => hn e.symm)
  have own : ∀ k, k < ob + 1 → b.ownBlock ≠ some k := fun k hk e => by have := (s.j.vb.blk e).1; omega
  refine ⟨⟨s.j.upd.then' (below_grown (Below.refl _ _) g (fun k e => by have := (s.j.vb.blk e).1; omega) s.j.upd.size), ?_, ?_, s.j.va.grown g (fun k hk e => s.j.ne k hk e), ho, ?_, hlt⟩, ?_, s.na, ?_, s.dl⟩
  · exact (hb _ s.j.r.lt (own _ (by omega))).trans s.j.r
  · exact (hb _ s.j.o.lt (own _ (by omega))).trans s.j.o
  · intro k hk e2
    have hk' : gg = k := by simpa [Value.ownBlock] using e2
    subst hk'
    rcases hat with e | e
    · exact s.j.ne _ hk e
    · have := (s.j.va.blk hk).2; omega
  · exact (hb _ s.d.lt s.nb).trans s.d
  · intro e
    have hk' : gg = db := by simpa [Value.ownBlock] using e
    subst hk'
    rcases hat with e | e
    · exact s.nb e
    · have := s.d.lt; omega
/-- The other block to be appended, behind the first append. -/
theorem XbR.grownA (s : XbR xb X a b wr) (g : wr.grownBy w' a.ownBlock) {gg n cap H : Nat} (hat : a.ownBlock = some gg ∨ gg = H) (hH : wr.heap.size = H) : XbR xb X (.slice (some ⟨gg, 0, none⟩) n cap) b w' := by
  refine ⟨(g.block _ s.1.lt (fun e => s.2.1 e.symm)).trans s.1, fun e => ?_, s.2.2⟩
  have hk' : gg = xb := by simpa [Value.ownBlock] using e
  subst hk'
  rcases hat with e | e
  · exact s.2.1 e
  · have := s.1.lt; omega
end
theorem jn_start (c : Addr) (h : Bool) (L : Nat → Nat → Int) (w w1 : World) (hc : w.cell? c = some (.bool h)) (hb : Below (w.alloc (.cells #[.int .i64 0, .int .i64 0, .int .i64 0, .int .i64 0, .int .i64 0, .int .i64 0, .int .i64 0, .int .i64 0, .int .i64 0, .int .i64 0] 40)).heap.size (w.alloc (.cells #[.int .i64 0, .int .i64 0, .int .i64 0, .int .i64 0, .int .i64 0, .int .i64 0, .int .i64 0, .int .i64 0, .int .i64 0, .int .i64 0] 40)) w1) :
    JnR c h w1.heap.size (jnO L 0) (.slice none 0 0) 0 (.slice none 0 0) 0 (jnV L) (jnP L) w ((w1.alloc (.cells #[.int .i64 0, .int .i64 0, .int .i64 0, .int .i64 0, .int .i64 0, .int .i64 0, .int .i64 0, .int .i64 0, .int .i64 0, .int .i64 0] 40)).setRow w1.heap.size (arrv 10 dl0)) ∧ Blk (w1.alloc (.cells #[.int .i64 0, .int .i64 0, .int .i64 0, .int .i64 0, .int .i64 0, .int .i64 0, .int .i64 0, .int .i64 0, .int .i64 0, .int .i64 0] 40)) w1.heap.size 40 10 (fun _ => 0) := by
  have R0 : Blk (w.alloc (.cells #[.int .i64 0, .int .i64 0, .int .i64 0, .int .i64 0, .int .i64 0, .int .i64 0, .int .i64 0, .int .i64 0, .int .i64 0, .int .i64 0] 40)) w.heap.size 40 10 (fun _ => 0) := by rw [zdl]; exact Blk.new w _ 10 _
  have X1 : Blk (w1.alloc (.cells #[.int .i64 0, .int .i64 0, .int .i64 0, .int .i64 0, .int .i64 0, .int .i64 0, .int .i64 0, .int .i64 0, .int .i64 0, .int .i64 0] 40)) w1.heap.size 40 10 (fun _ => 0) := by rw [zdl]; exact Blk.new _ _ 10 _
  have B1 : Below w1.heap.size w1 ((w1.alloc (.cells #[.int .i64 0, .int .i64 0, .int .i64 0, .int .i64 0, .int .i64 0, .int .i64 0, .int .i64 0, .int .i64 0, .int .i64 0, .int .i64 0] 40)).setRow w1.heap.size (arrv 10 dl0)) := below_row ((Below.refl _ _).alloc (Nat.le_refl _) _) (Nat.le_refl _) _
  have U0 : Upd c h w (w.alloc (.cells #[.int .i64 0, .int .i64 0, .int .i64 0, .int .i64 0, .int .i64 0, .int .i64 0, .int .i64 0, .int .i64 0, .int .i64 0, .int .i64 0] 40)) := Upd.then (Upd.refl hc) (by (repeat (first | with_reducible exact Below.refl _ _ | with_reducible apply Below.drew | (with_reducible refine below_drewN ?_ _) | (with_reducible refine Below.alloc ?_ (by (try simp) <;> omega) _) | (with_reducible refine Below.setCell ?_ (by (try simp) <;> omega) _))))
  refine ⟨⟨(U0.then hb).then B1, (R0.below hb).below B1, (X1.setRow dl0).congr fun i hi => ?_, OwnV.nil _ _ _, OwnV.nil _ _ _, (fun g e => (by cases e)), (R0.below hb).lt⟩, X1⟩
  have key : ∀ i : Fin 10, dl0 i.val = jnO (fun _ _ => 0) 0 i.val := by decide
  exact key ⟨i, hi⟩
theorem jn_next (L : Nat → Nat → Int) (k : Nat) : ∀ i, i < 10 → putF (jnO L k) 0 4 (jnT L (k + 1)) i = jnO L (k + 1) i := fun i _ => by
  unfold putF jnO
  by_cases h : i < 4
  · rw [if_pos (by omega), if_pos h]; rfl
  · rw [if_neg (by omega), if_neg h, if_neg h]
set_option maxHeartbeats 16000000 in
theorem join_any (c : Addr) (h : Bool) (q : Option Addr) (pb po n cp : Nat) (L : Nat → Nat → Int) (w : World) (hc : w.cell? c = some (.bool h)) (hf : w.frozen? c = false) (hn : n ≤ 100) (hq : 0 < n → q = some ⟨pb, po, none⟩)
    (hL : ∀ i, i < n → ∀ j, j < 10 → w.cell? ⟨pb, po + i * 10 + j, none⟩ = some (.int .i64 (L i j))) :
    Calls Tryz.prog 15 #[.pointer (some c), .slice q n cp] w fun e w' => e = .returned (.agg (arrv 10 (jnR L n))) ∧ Upd c (jnH h L n) w w' := by
  have hcb := World.block_lt_of_cell? w c hc
  have GS := Lib.hid (fun (w1 : World) hb => jn_start c h L w w1 hc hb)
  have HC := Lib.hid hc
  have HF := Lib.hid hf
  have HL := Lib.hid hL
  have HQ := Lib.hid hq
  clear hc hf hL hq
  go_enter Tryz.func15, Tryz.ntmps15
  go_upto_region 1 with fail
  refine wp_region_lit ?_
  refine wpList_step (fun K hK => ?_)
  go_simp
  (refine (nothing_any _).mono ?_); rintro e w1 ⟨rfl, hb1⟩; have S0 := Lib.hid (GS.out w1 hb1); clear hb1
  (try dsimp only)
  (try simp only [Act.put, nA, nB, nC])
  refine hK _ _ ?_
  clear hK K
  refine wpList_act (v := ?_) (w' := ?_) rfl ?_ ?_
  rotate_left 2
  · (go_simp; (try (first | with_reducible rfl | (constructor <;> with_reducible rfl))))
  (try simp only [Act.put, nA, nB, nC])
  refine wpList_done (w' := ?_) rfl ?_ ?_
  rotate_left
  · (refine Eq.trans (run_store_row 40 (.tmp 5) (.tmp 10) (by rfl) (w1.heap.size) (by rfl) (by rfl) (S0.out.2) (idl.trans rfl)) ?_; with_reducible rfl)
  (try simp only [Act.put, nA, nB, nC])
  refine wpList_nil ?_
  have S1 := Lib.hid S0.out.1
  generalize (w1.alloc (.cells #[.int .i64 0, .int .i64 0, .int .i64 0, .int .i64 0, .int .i64 0, .int .i64 0, .int .i64 0, .int .i64 0, .int .i64 0, .int .i64 0] 40)).setRow w1.heap.size (arrv 10 dl0) = W1 at *
  obtain ⟨ob, hob⟩ : ∃ x, w1.heap.size = x := ⟨_, rfl⟩
  rw [hob] at S1 ⊢
  clear S0 GS hob
  go_wp2_with fail
  go_loopw [6, 7, 13] (fun u v i wr => ∃ (k : Nat) (a b : Value), k ≤ n ∧ i = .int .i64 k ∧ a = u ∧ b = v ∧ Hid (k = 0 → a = .slice none 0 0 ∧ b = .slice none 0 0) ∧ Hid (JnR c (h || orB (jnB L) k) ob (jnO L k) a k b k (jnV L) (jnP L) w wr)) (fun _ _ i _ => n - (intOf i).toNat)
  case atStart =>
    refine ⟨0, _, _, by omega, rfl, rfl, rfl, Lib.hid (fun _ => ⟨rfl, rfl⟩), ?_⟩
    rw [show (h || orB (jnB L) 0) = h from by simp [orB]]
    exact S1
  case round =>
    obtain ⟨k, a, b, hk, rfl, rfl, rfl, HZ, R⟩ := hrel
    clear S1
    by_cases hlt : k < n
    · have d1 : decide (k < n) = true := by simpa using hlt
      have d2 : decide ((k : Int) < (n : Int)) = true := by simp; omega
      have k0 : (0 : Int) ≤ (k : Int) := Int.natCast_nonneg _
      have k1 : (k : Int) < (n : Int) := by omega
      obtain rfl : q = some ⟨pb, po, none⟩ := HQ.out (by omega)
      have LR := Lib.hid (fun j (hj : j < 10) => show wr.cell? ⟨pb, po + k * 10 + j, none⟩ = some (.int .i64 (L k j)) from by
        have hcell := HL.out k hlt j hj
        have hne : (⟨pb, po + k * 10 + j, none⟩ : Addr) ≠ c := fun e => by rw [e, HC.out] at hcell; cases hcell
        exact (R.out.upd.cell (World.block_lt_of_cell? _ _ hcell) (Ne.symm hne)).trans hcell)
      have FL : (h || orB (jnB L) k || qmH (L k) (jnT L k) || uniH (qmV (L k) (jnT L k))) = (h || orB (jnB L) (k + 1)) := by simp only [orB, jnB, Bool.or_assoc]
      have FO : arrv 4 (fun i => jnO L k i) = arrv 4 (jnT L k) := arrv_congr fun i hi => by unfold jnO; rw [if_pos hi]
      have FN : arrv 10 (putF (jnO L k) 0 4 (uniV (qmV (L k) (jnT L k)))) = arrv 10 (jnO L (k + 1)) := arrv_congr fun i hi => jn_next L k i hi
      have FV : arrv 3 (fun j => L k (4 + j)) = arrv 3 (jnV L k) := rfl
      have FP : arrv 3 (fun j => L k (7 + j)) = arrv 3 (jnP L k) := rfl
      obtain ⟨D, hD⟩ : ∃ x, L k = x := ⟨_, rfl⟩
      obtain ⟨T, hT⟩ : ∃ x, jnT L k = x := ⟨_, rfl⟩
      obtain ⟨O, hO⟩ : ∃ x, jnO L k = x := ⟨_, rfl⟩
      obtain ⟨O2, hO2⟩ : ∃ x, jnO L (k + 1) = x := ⟨_, rfl⟩
      obtain ⟨M, hM⟩ : ∃ x, qmV D T = x := ⟨_, rfl⟩
      obtain ⟨U, hU⟩ : ∃ x, uniV M = x := ⟨_, rfl⟩
      obtain ⟨H, hH⟩ : ∃ x, (h || orB (jnB L) k) = x := ⟨_, rfl⟩
      obtain ⟨LV, hLV⟩ : ∃ x, jnV L = x := ⟨_, rfl⟩
      obtain ⟨LP, hLP⟩ : ∃ x, jnP L = x := ⟨_, rfl⟩
      rw [hD] at LR
      rw [hH, hD, hT, hM] at FL
      rw [hO, hT] at FO
      rw [hO, hD, hT, hM, hU, hO2] at FN
      rw [hD, hLV] at FV
      rw [hD, hLP] at FP
      rw [hO, hH, hLV, hLP] at R
      have GL := Lib.hid FL
      have GO := Lib.hid FO
      have GN := Lib.hid FN
      have GV := Lib.hid FV
      have GP := Lib.hid FP
      have GM := Lib.hid hM
      have GU := Lib.hid hU
      have GE := Lib.hid (And.intro hO2 (And.intro hLV hLP))
      clear FL FO FN FV FP hD hT hO hO2 hM hU hH hLV hLP
      go_upto_region 5 with fail
      refine wp_region_lit ?_
      refine wpList_val (v := ?_) rfl ?_ ?_
      rotate_left
      · (go_simp; (try (first | with_reducible rfl | (constructor <;> with_reducible rfl))))
      (try simp only [Act.put, nA, nB, nC])
      refine wpList_val (v := ?_) rfl ?_ ?_
      rotate_left
      · (refine Eq.trans (run_load_mid3 40 (.tmp 15) (by rfl) pb (po + k * 10) 10 (by rfl) D (fun j hj => LR.out j hj) _ Tryz.underlying40 rfl idl) ?_; with_reducible rfl)
      (try simp only [Act.put, nA, nB, nC])
      refine wpList_act (v := ?_) (w' := ?_) rfl ?_ ?_
      rotate_left 2
      · (go_simp; (try (first | with_reducible rfl | (constructor <;> with_reducible rfl))))
      (try simp only [Act.put, nA, nB, nC])
      refine wpList_done (w' := ?_) rfl ?_ ?_
      rotate_left
      · (refine Eq.trans (run_store_row 40 (.tmp 9) (.tmp 16) (by rfl) (wr.heap.size) (by rfl) (by rfl) (show Blk (wr.alloc (.cells #[.int .i64 0, .int .i64 0, .int .i64 0, .int .i64 0, .int .i64 0, .int .i64 0, .int .i64 0, .int .i64 0, .int .i64 0, .int .i64 0] 40)) wr.heap.size 40 10 (fun _ => 0) by rw [zdl]; exact Blk.new _ _ _ _) (idl.trans rfl)) ?_; with_reducible rfl)
      (try simp only [Act.put, nA, nB, nC])
      refine wpList_nil ?_
      have HS := Lib.hid (jd_new R.out D)
      generalize (wr.alloc (.cells #[.int .i64 0, .int .i64 0, .int .i64 0, .int .i64 0, .int .i64 0, .int .i64 0, .int .i64 0, .int .i64 0, .int .i64 0, .int .i64 0] 40)).setRow wr.heap.size (arrv 10 D) = W2 at *
      obtain ⟨db, hdb⟩ : ∃ x, wr.heap.size = x := ⟨_, rfl⟩
      rw [hdb] at HS ⊢
      clear hdb R LR
      go_upto_region 6 with fail
      refine wp_region_lit ?_
      refine wpList_val (v := ?_) rfl ?_ ?_
      rotate_left
      · (go_simp; (try (first | with_reducible rfl | (constructor <;> with_reducible rfl))))
      (try simp only [Act.put, nA, nB, nC])
      refine wpList_val (v := ?_) rfl ?_ ?_
      rotate_left
      · (go_simp; (try (first | with_reducible rfl | (constructor <;> with_reducible rfl))))
      (try simp only [Act.put, nA, nB, nC])
      refine wpList_val (v := ?_) rfl ?_ ?_
      rotate_left
      · (go_simp; (try (first | with_reducible rfl | (constructor <;> with_reducible rfl))))
      (try simp only [Act.put, nA, nB, nC])
      refine wpList_val (v := ?_) rfl ?_ ?_
      rotate_left
      · (refine Eq.trans (run_load_sub 38 (.tmp 19) (by rfl) db 0 4 (by rfl) HS.out.d (by decide) _ Tryz.underlying38 rfl iqt) ?_; with_reducible rfl)
      (try simp only [Act.put, nA, nB, nC])
      refine wpList_val (v := ?_) rfl ?_ ?_
      rotate_left
      · (go_simp; (try (first | with_reducible rfl | (constructor <;> with_reducible rfl))))
      (try simp only [Act.put, nA, nB, nC])
      refine wpList_val (v := ?_) rfl ?_ ?_
      rotate_left
      · (refine Eq.trans (run_load_sub 38 (.tmp 21) (by rfl) ob 0 4 (by rfl) HS.out.j.o (by decide) _ Tryz.underlying38 rfl iqt) ?_; with_reducible rfl)
      (try simp only [Act.put, nA, nB, nC])
      refine wpList_step (fun K hK => ?_)
      go_simp
      (rw [GO.out]); (refine (qmul_any c H D T _ (HS.out.j.upd.cellc HC.out) ((HS.out.j.upd.frozen hcb).trans HF.out)).mono ?_); (rw [GM.out]); rintro e w3 ⟨rfl, hu⟩; have HU := Lib.hid (HS.out.upd' hcb hu); clear HS hu; have HS := HU; clear HU
      (try dsimp only)
      (try simp only [Act.put, nA, nB, nC])
      refine hK _ _ ?_
      clear hK K
      refine wpList_step (fun K hK => ?_)
      go_simp
      (refine (qunit_any c _ M _ (HS.out.j.upd.cellc HC.out) ((HS.out.j.upd.frozen hcb).trans HF.out)).mono ?_); (rw [GU.out]); rintro e w4 ⟨rfl, hu⟩; have HU := Lib.hid (HS.out.upd' hcb hu); clear HS hu; have HS := HU; clear HU
      (try dsimp only)
      (try simp only [Act.put, nA, nB, nC])
      refine hK _ _ ?_
      clear hK K
      refine wpList_val (v := ?_) rfl ?_ ?_
      rotate_left
      · (go_simp; (try (first | with_reducible rfl | (constructor <;> with_reducible rfl))))
      (try simp only [Act.put, nA, nB, nC])
      refine wpList_done (w' := ?_) rfl ?_ ?_
      rotate_left
      · (refine Eq.trans (run_store_sub 38 (.tmp 25) (.tmp 24) (by rfl) ob 0 (by rfl) (by rfl) HS.out.j.o (by decide) iqt) ?_; with_reducible rfl)
      (try simp only [Act.put, nA, nB, nC])
      refine wpList_nil ?_
      rw [GL.out] at HS
      rw [GN.out]
      have H5 := Lib.hid (HS.out.setO O2)
      generalize w4.setRow ob (arrv 10 O2) = W5 at *
      clear HS
      go_upto_region 7 with fail
      have HS := Lib.hid H5.out.drew
      clear H5
      refine wp_region_M (fun w' => Blk w' db 40 10 D) 11 (by kernel_rfl) ?_ (fun hHeld => ?_)
      · exact HS.out.d
      refine wpAnyM_take 0 (v := ?_) rfl (by kernel_rfl) (fun _ _ _ h => h) (Or.inl ⟨by rfl, ?_⟩) (by assumption) ?_
      rotate_left
      · (intro wx hSw; (try dsimp only at hSw); go_simp; (try with_reducible rfl))
      (try simp only [Act.put, nA, nB, nC])
      refine wpAnyM_take 1 (v := ?_) rfl (by kernel_rfl) (fun _ _ _ h => h) (Or.inl ⟨by rfl, ?_⟩) (by assumption) ?_
      rotate_left
      · (intro wx hSw; (try dsimp only at hSw); go_simp; (try with_reducible rfl))
      (try simp only [Act.put, nA, nB, nC])
      refine wpAnyM_take 2 (v := ?_) rfl (by kernel_rfl) (fun _ _ _ h => h) (Or.inl ⟨by rfl, ?_⟩) (by assumption) ?_
      rotate_left
      · (intro wx hSw; refine Eq.trans (run_load_sub 28 (.tmp 27) (by rfl) db 4 3 (by rfl) hSw (by decide) _ Tryz.underlying28 rfl iv3) ?_; with_reducible rfl)
      (try simp only [Act.put, nA, nB, nC])
      refine wpAnyM_take 5 (v := ?_) rfl (by kernel_rfl) (fun _ _ _ h => h) (Or.inl ⟨by rfl, ?_⟩) (by assumption) ?_
      rotate_left
      · (intro wx hSw; (try dsimp only at hSw); go_simp; (try with_reducible rfl))
      (try simp only [Act.put, nA, nB, nC])
      refine wpAnyM_take 6 (v := ?_) rfl (by kernel_rfl) (fun _ _ _ h => h) (Or.inl ⟨by rfl, ?_⟩) (by assumption) ?_
      rotate_left
      · (intro wx hSw; (try dsimp only at hSw); go_simp; (try with_reducible rfl))
      (try simp only [Act.put, nA, nB, nC])
      refine wpAnyM_take 7 (v := ?_) rfl (by kernel_rfl) (fun _ _ _ h => h) (Or.inl ⟨by rfl, ?_⟩) (by assumption) ?_
      rotate_left
      · (intro wx hSw; refine Eq.trans (run_load_sub 28 (.tmp 32) (by rfl) db 7 3 (by rfl) hSw (by decide) _ Tryz.underlying28 rfl iv3) ?_; with_reducible rfl)
      (try simp only [Act.put, nA, nB, nC])
      refine wpAnyM_twoS 3 8 rfl rfl (by kernel_rfl) (fun K hK => ?_) (fun K hK => ?_)
      · refine if_pos_of (by rfl) (wp_bslv1 (.tmp 28) rfl rfl ?_); (rw [GV.out]); have HT := Lib.hid (jd_x HS.out (LV k)); clear HS; have HS := Lib.hid HT.out.1; have HX := Lib.hid HT.out.2; clear HT; (try (have HY2 := Lib.hid (HY.out.down ((Below.refl _ _).alloc (Nat.le_refl _) (.cells (arrv 3 (LV k)) 28))); clear HY; have HY := HY2; clear HY2))
        clear hHeld
        refine hK.out _ _ ?_ (fun hHeld => ?_)
        · exact HS.out.d
        clear hK K
        (try simp only [Act.put, nA, nB, nC])
        refine wpAnyM_twoS 4 8 rfl rfl (by kernel_rfl) (fun K hK => ?_) (fun K hK => ?_)
        · refine step_appV rfl (.tmp 26) (.tmp 29) rfl (ob + 1) rfl HS.out.j.va _ 1 rfl HX.out.1 (by omega) (by have hz := HS.out.j.o.lt; first | omega | (simp at hz ⊢; omega)) _ rfl ?_; intro g1 cp1 w6 ho hg hat hlt6; have HU := Lib.hid (jd_appA HS.out hg ho hat rfl); (try (have HY2 := Lib.hid (HY.out.grownA (n := k + 1) (cap := cp1) hg hat rfl); clear HY; have HY := HY2; clear HY2)); clear HS HX hg ho hat hlt6; have HS := HU; clear HU
          clear hHeld
          refine hK.out _ _ ?_ (fun hHeld => ?_)
          · exact HS.out.d
          clear hK K
          (try simp only [Act.put, nA, nB, nC])
          refine wpAnyM_oneS 8 rfl (by kernel_rfl) (fun K hK => ?_)
          refine if_pos_of (by rfl) (wp_bslv1 (.tmp 33) rfl rfl ?_); (rw [GP.out]); have HT := Lib.hid (jd_x HS.out (LP k)); clear HS; have HS := Lib.hid HT.out.1; have HY := Lib.hid HT.out.2; clear HT; (try (have HX2 := Lib.hid (HX.out.down ((Below.refl _ _).alloc (Nat.le_refl _) (.cells (arrv 3 (LP k)) 28))); clear HX; have HX := HX2; clear HX2))
          clear hHeld
          refine hK.out _ _ ?_ (fun hHeld => ?_)
          · exact HS.out.d
          clear hK K
          (try simp only [Act.put, nA, nB, nC])
          refine wpAnyM_oneS 9 rfl (by kernel_rfl) (fun K hK => ?_)
          refine step_appV rfl (.tmp 31) (.tmp 34) rfl (ob + 1) rfl HS.out.j.vb _ 1 rfl HY.out.1 (by omega) (by have hz := HS.out.j.o.lt; first | omega | (simp at hz ⊢; omega)) _ rfl ?_; intro g2 cp2 w7 ho hg hat hlt7; have HU := Lib.hid (jd_appB HS.out hg ho hat rfl); clear HS HY hg ho hat hlt7; have HS := HU; clear HU
          clear hHeld
          refine hK.out _ _ ?_ (fun hHeld => ?_)
          · exact HS.out.d
          clear hK K
          (try simp only [Act.put, nA, nB, nC])
          refine wpAnyM_take 10 (v := ?_) rfl (by kernel_rfl) (fun _ _ _ h => h) (Or.inl ⟨by rfl, ?_⟩) (by assumption) ?_
          rotate_left
          · (intro wx hSw; (try dsimp only at hSw); go_simp; (try with_reducible rfl))
          (try simp only [Act.put, nA, nB, nC])
          refine wpAnyM_one 11 rfl (by kernel_rfl) (fun K hK => ?_)
          go_simp
          refine hK.out _ _ (.inl (by kernel_rfl)) (fun _ => ?_)
          clear hK K
          (try simp only [Act.put, nA, nB, nC])
          refine wpAnyM_done (by kernel_rfl) ?_ _
          (have R9 := Lib.hid HS.out.j; rw [← GE.out.1, ← GE.out.2.1, ← GE.out.2.2] at R9; clear HS; go_wp2_with fail; go_roundw; (case rel => exact ⟨k + 1, _, _, by omega, by go_num, rfl, rfl, Lib.hid (fun e => by omega), R9⟩); (case measure => simp [intOf]; omega))
        · refine if_pos_of (by rfl) (wp_bslv1 (.tmp 33) rfl rfl ?_); (rw [GP.out]); have HT := Lib.hid (jd_x HS.out (LP k)); clear HS; have HS := Lib.hid HT.out.1; have HY := Lib.hid HT.out.2; clear HT; (try (have HX2 := Lib.hid (HX.out.down ((Below.refl _ _).alloc (Nat.le_refl _) (.cells (arrv 3 (LP k)) 28))); clear HX; have HX := HX2; clear HX2))
          clear hHeld
          refine hK.out _ _ ?_ (fun hHeld => ?_)
          · exact HS.out.d
          clear hK K
          (try simp only [Act.put, nA, nB, nC])
          refine wpAnyM_oneS 4 rfl (by kernel_rfl) (fun K hK => ?_)
          refine step_appV rfl (.tmp 26) (.tmp 29) rfl (ob + 1) rfl HS.out.j.va _ 1 rfl HX.out.1 (by omega) (by have hz := HS.out.j.o.lt; first | omega | (simp at hz ⊢; omega)) _ rfl ?_; intro g1 cp1 w6 ho hg hat hlt6; have HU := Lib.hid (jd_appA HS.out hg ho hat rfl); (try (have HY2 := Lib.hid (HY.out.grownA (n := k + 1) (cap := cp1) hg hat rfl); clear HY; have HY := HY2; clear HY2)); clear HS HX hg ho hat hlt6; have HS := HU; clear HU
          clear hHeld
          refine hK.out _ _ ?_ (fun hHeld => ?_)
          · exact HS.out.d
          clear hK K
          (try simp only [Act.put, nA, nB, nC])
          refine wpAnyM_oneS 9 rfl (by kernel_rfl) (fun K hK => ?_)
          refine step_appV rfl (.tmp 31) (.tmp 34) rfl (ob + 1) rfl HS.out.j.vb _ 1 rfl HY.out.1 (by omega) (by have hz := HS.out.j.o.lt; first | omega | (simp at hz ⊢; omega)) _ rfl ?_; intro g2 cp2 w7 ho hg hat hlt7; have HU := Lib.hid (jd_appB HS.out hg ho hat rfl); clear HS HY hg ho hat hlt7; have HS := HU; clear HU
          clear hHeld
          refine hK.out _ _ ?_ (fun hHeld => ?_)
          · exact HS.out.d
          clear hK K
          (try simp only [Act.put, nA, nB, nC])
          refine wpAnyM_take 10 (v := ?_) rfl (by kernel_rfl) (fun _ _ _ h => h) (Or.inl ⟨by rfl, ?_⟩) (by assumption) ?_
          rotate_left
          · (intro wx hSw; (try dsimp only at hSw); go_simp; (try with_reducible rfl))
          (try simp only [Act.put, nA, nB, nC])
          refine wpAnyM_one 11 rfl (by kernel_rfl) (fun K hK => ?_)
          go_simp
          refine hK.out _ _ (.inl (by kernel_rfl)) (fun _ => ?_)
          clear hK K
          (try simp only [Act.put, nA, nB, nC])
          refine wpAnyM_done (by kernel_rfl) ?_ _
          (have R9 := Lib.hid HS.out.j; rw [← GE.out.1, ← GE.out.2.1, ← GE.out.2.2] at R9; clear HS; go_wp2_with fail; go_roundw; (case rel => exact ⟨k + 1, _, _, by omega, by go_num, rfl, rfl, Lib.hid (fun e => by omega), R9⟩); (case measure => simp [intOf]; omega))
      · refine if_pos_of (by rfl) (wp_bslv1 (.tmp 33) rfl rfl ?_); (rw [GP.out]); have HT := Lib.hid (jd_x HS.out (LP k)); clear HS; have HS := Lib.hid HT.out.1; have HY := Lib.hid HT.out.2; clear HT; (try (have HX2 := Lib.hid (HX.out.down ((Below.refl _ _).alloc (Nat.le_refl _) (.cells (arrv 3 (LP k)) 28))); clear HX; have HX := HX2; clear HX2))
        clear hHeld
        refine hK.out _ _ ?_ (fun hHeld => ?_)
        · exact HS.out.d
        clear hK K
        (try simp only [Act.put, nA, nB, nC])
        refine wpAnyM_oneS 3 rfl (by kernel_rfl) (fun K hK => ?_)
        refine if_pos_of (by rfl) (wp_bslv1 (.tmp 28) rfl rfl ?_); (rw [GV.out]); have HT := Lib.hid (jd_x HS.out (LV k)); clear HS; have HS := Lib.hid HT.out.1; have HX := Lib.hid HT.out.2; clear HT; (try (have HY2 := Lib.hid (HY.out.down ((Below.refl _ _).alloc (Nat.le_refl _) (.cells (arrv 3 (LV k)) 28))); clear HY; have HY := HY2; clear HY2))
        clear hHeld
        refine hK.out _ _ ?_ (fun hHeld => ?_)
        · exact HS.out.d
        clear hK K
        (try simp only [Act.put, nA, nB, nC])
        refine wpAnyM_oneS 4 rfl (by kernel_rfl) (fun K hK => ?_)
        refine step_appV rfl (.tmp 26) (.tmp 29) rfl (ob + 1) rfl HS.out.j.va _ 1 rfl HX.out.1 (by omega) (by have hz := HS.out.j.o.lt; first | omega | (simp at hz ⊢; omega)) _ rfl ?_; intro g1 cp1 w6 ho hg hat hlt6; have HU := Lib.hid (jd_appA HS.out hg ho hat rfl); (try (have HY2 := Lib.hid (HY.out.grownA (n := k + 1) (cap := cp1) hg hat rfl); clear HY; have HY := HY2; clear HY2)); clear HS HX hg ho hat hlt6; have HS := HU; clear HU
        clear hHeld
        refine hK.out _ _ ?_ (fun hHeld => ?_)
        · exact HS.out.d
        clear hK K
        (try simp only [Act.put, nA, nB, nC])
        refine wpAnyM_oneS 9 rfl (by kernel_rfl) (fun K hK => ?_)
        refine step_appV rfl (.tmp 31) (.tmp 34) rfl (ob + 1) rfl HS.out.j.vb _ 1 rfl HY.out.1 (by omega) (by have hz := HS.out.j.o.lt; first | omega | (simp at hz ⊢; omega)) _ rfl ?_; intro g2 cp2 w7 ho hg hat hlt7; have HU := Lib.hid (jd_appB HS.out hg ho hat rfl); clear HS HY hg ho hat hlt7; have HS := HU; clear HU
        clear hHeld
        refine hK.out _ _ ?_ (fun hHeld => ?_)
        · exact HS.out.d
        clear hK K
        (try simp only [Act.put, nA, nB, nC])
        refine wpAnyM_take 10 (v := ?_) rfl (by kernel_rfl) (fun _ _ _ h => h) (Or.inl ⟨by rfl, ?_⟩) (by assumption) ?_
        rotate_left
        · (intro wx hSw; (try dsimp only at hSw); go_simp; (try with_reducible rfl))
        (try simp only [Act.put, nA, nB, nC])
        refine wpAnyM_one 11 rfl (by kernel_rfl) (fun K hK => ?_)
        go_simp
        refine hK.out _ _ (.inl (by kernel_rfl)) (fun _ => ?_)
        clear hK K
        (try simp only [Act.put, nA, nB, nC])
        refine wpAnyM_done (by kernel_rfl) ?_ _
        (have R9 := Lib.hid HS.out.j; rw [← GE.out.1, ← GE.out.2.1, ← GE.out.2.2] at R9; clear HS; go_wp2_with fail; go_roundw; (case rel => exact ⟨k + 1, _, _, by omega, by go_num, rfl, rfl, Lib.hid (fun e => by omega), R9⟩); (case measure => simp [intOf]; omega))
    · obtain rfl : k = n := by omega
      have d1 : decide (k < k) = false := by simp
      have d2 : decide ((k : Int) < (k : Int)) = false := by simp
      have HE := Lib.hid (show jnH h L k = (h || orB (jnB L) k || orB (vaH (jnV L) k) 3 || orB (vaH (jnP L) k) 3) ∧ jnR L k = putF (putF (jnO L k) 4 3 (vaV (jnV L) k)) 7 3 (vaV (jnP L) k) from ⟨rfl, rfl⟩)
      obtain ⟨O, hO⟩ : ∃ x, jnO L k = x := ⟨_, rfl⟩
      obtain ⟨LV, hLV⟩ : ∃ x, jnV L = x := ⟨_, rfl⟩
      obtain ⟨LP, hLP⟩ : ∃ x, jnP L = x := ⟨_, rfl⟩
      obtain ⟨H, hH⟩ : ∃ x, (h || orB (jnB L) k) = x := ⟨_, rfl⟩
      rw [hO, hLV, hLP, hH] at R
      rw [hO, hLV, hLP, hH] at HE
      clear hO hLV hLP hH
      obtain ⟨A, hA⟩ : ∃ x, vaV LV k = x := ⟨_, rfl⟩
      obtain ⟨B, hB⟩ : ∃ x, vaV LP k = x := ⟨_, rfl⟩
      rw [hA, hB] at HE
      have GA := Lib.hid hA
      have GB := Lib.hid hB
      clear hA hB
      have HS := R
      clear R
      go_upto_region 9 with fail
      refine wp_region_lit ?_
      refine wpList_val (v := ?_) rfl ?_ ?_
      rotate_left
      · (go_simp; (try (first | with_reducible rfl | (constructor <;> with_reducible rfl))))
      (try simp only [Act.put, nA, nB, nC])
      refine wpList_val (v := ?_) rfl ?_ ?_
      rotate_left
      · (go_simp; (try (first | with_reducible rfl | (constructor <;> with_reducible rfl))))
      (try simp only [Act.put, nA, nB, nC])
      refine wpList_step (fun K hK => ?_)
      go_simp
      (refine (vaddO_any c H _ HS.out.va (HS.out.upd.cellc HC.out) ((HS.out.upd.frozen hcb).trans HF.out) (by omega) (fun e => (HZ.out e).1)).mono ?_); (rw [GA.out]); rintro e w3 ⟨rfl, hu⟩; have HU := Lib.hid (HS.out.upd' hcb hu); clear HS hu; have HS := HU; clear HU
      (try dsimp only)
      (try simp only [Act.put, nA, nB, nC])
      refine hK _ _ ?_
      clear hK K
      refine wpList_val (v := ?_) rfl ?_ ?_
      rotate_left
      · (go_simp; (try (first | with_reducible rfl | (constructor <;> with_reducible rfl))))
      (try simp only [Act.put, nA, nB, nC])
      refine wpList_val (v := ?_) rfl ?_ ?_
      rotate_left
      · (go_simp; (try (first | with_reducible rfl | (constructor <;> with_reducible rfl))))
      (try simp only [Act.put, nA, nB, nC])
      refine wpList_step (fun K hK => ?_)
      go_simp
      (refine (vaddO_any c _ _ HS.out.vb (HS.out.upd.cellc HC.out) ((HS.out.upd.frozen hcb).trans HF.out) (by omega) (fun e => (HZ.out e).2)).mono ?_); (rw [GB.out]); rintro e w4 ⟨rfl, hu⟩; have HU := Lib.hid (HS.out.upd' hcb hu); clear HS hu; have HS := HU; clear HU
      (try dsimp only)
      (try simp only [Act.put, nA, nB, nC])
      refine hK _ _ ?_
      clear hK K
      refine wpList_val (v := ?_) rfl ?_ ?_
      rotate_left
      · (go_simp; (try (first | with_reducible rfl | (constructor <;> with_reducible rfl))))
      (try simp only [Act.put, nA, nB, nC])
      refine wpList_done (w' := ?_) rfl ?_ ?_
      rotate_left
      · (refine Eq.trans (run_store_sub 28 (.tmp 43) (.tmp 39) (by rfl) ob 4 (by rfl) (by rfl) HS.out.o (by decide) iv3) ?_; with_reducible rfl)
      (try simp only [Act.put, nA, nB, nC])
      have HV := Lib.hid (HS.out.setO (putF O 4 3 A)); generalize w4.setRow ob (arrv 10 (putF O 4 3 A)) = W5 at *; clear HS; (refine wpList_val (v := ?_) rfl ?_ ?_); rotate_left; (focus (go_simp; (try with_reducible rfl))); (try simp only [Act.put, nA, nB, nC])
      refine wpList_done (w' := ?_) rfl ?_ ?_
      rotate_left
      · (refine Eq.trans (run_store_sub 28 (.tmp 44) (.tmp 42) (by rfl) ob 7 (by rfl) (by rfl) HV.out.o (by decide) iv3) ?_; with_reducible rfl)
      (try simp only [Act.put, nA, nB, nC])
      refine wpList_nil ?_
      have HW := Lib.hid (HV.out.setO (putF (putF O 4 3 A) 7 3 B))
      rw [← HE.out.2] at HW ⊢
      generalize W5.setRow ob (arrv 10 (jnR L k)) = W6 at *
      clear HV
      obtain ⟨RR, hRR⟩ : ∃ x, jnR L k = x := ⟨_, rfl⟩
      rw [hRR] at HW
      have GR := Lib.hid hRR
      clear hRR
      have P0 := HW.out.o
      go_upto_region 10 with fail
      refine wp_region_lit ?_
      refine wpList_val (v := ?_) rfl ?_ ?_
      rotate_left
      · (refine Eq.trans (run_load_row 40 (.tmp 5) (by rfl) (ob) (by rfl) _ _ _ _ (P0) Tryz.underlying40 rfl (idl.trans (by rw [arrv_size]))) ?_; with_reducible rfl)
      (try simp only [Act.put, nA, nB, nC])
      refine wpList_done (w' := ?_) rfl ?_ ?_
      rotate_left
      · (refine Eq.trans (run_store_row 40 (.tmp 4) (.tmp 45) (by rfl) (w.heap.size) (by rfl) (by rfl) (HW.out.r) (idl.trans rfl)) ?_; with_reducible rfl)
      (try simp only [Act.put, nA, nB, nC])
      refine wpList_nil ?_
      have D1 := Lib.hid (HW.out.r.setRow RR)
      have DU := Lib.hid (HW.out.upd.then' (below_row (Below.refl _ _) (Nat.le_refl _) (arrv 10 RR)))
      generalize W6.setRow w.heap.size (arrv 10 RR) = W7 at *
      clear HW P0
      go_wp2_with fail
      refine bodyPost_ret (results_cell_row Tryz.results15 _ _ w.heap.size 40 (arrv 10 RR) (0, 0) _ rfl D1.out Tryz.underlying40 rfl (idl.trans (by rw [arrv_size]))) rfl ⟨by rw [GR.out], ?_⟩
      rw [HE.out.1]
      exact DU.out
end Go.Proofs.YtgfklheepkgedaaGreat
