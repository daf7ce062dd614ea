/- What a jump tells (plain laws). No program beyond the numbers' names. -/
import Derived.Test.YtgfklheepkgedaaTwP
import Derived.Test.YtgfklheepkgedaaS01
import Derived.Test.YtgfklheepkgedaaProg
namespace Go.Proofs.Ytgfklheepkgedaa
theorem and3 (u : Int) : 0 ≤ Go.bits .and .i64 u 3 ∧ Go.bits .and .i64 u 3 ≤ 3 := by
  obtain ⟨n, hn, e⟩ : ∃ n : Nat, n ≤ 3 ∧ Go.bits .and .i64 u 3 = Go.IntKind.i64.wrap (n : Int) := by
    refine ⟨(BitVec.ofInt 64 u &&& BitVec.ofInt 64 3).toNat, ?_, rfl⟩
    rw [BitVec.toNat_and]
    exact Nat.le_trans Nat.and_le_right (by decide)
  rw [e, Go.IntWalk.i64_in _ (by omega)]
  omega
theorem keep_hi {X : Nat → Int} {i : Nat} (h4 : 4 ≤ i) (h : -(boxF i) ≤ X i ∧ X i ≤ boxF i) : keepF X i = X i := by
  have e : keepI X i = X i := by
    unfold keepI
    split
    · rfl
    · unfold turnd; rw [if_neg (by omega)]
  unfold keepF clmF
  rw [if_neg (by omega), e]
  exact (clampV_id h).1
/-- What the law asks of a jump: A behind it, D told, states fr .. fr + n touched. -/
structure TlQ (K A D : Nat → Int) (fr n : Nat) : Prop where
  g : goodB A = true
  eq : ∀ i, i < 24 → (i < fr ∨ fr + n ≤ i) → A i = K i
  dv : ∀ i, 4 ≤ i → i < 10 → A i - K i = D i
  bd : ∀ i, i < 24 → (-9007199254740992 ≤ A i ∧ A i ≤ 9007199254740992) ∧ (-9007199254740992 ≤ K i ∧ K i ≤ 9007199254740992)
theorem good_bd {K : Nat → Int} (h : goodB K = true) : ∀ i, i < 24 → -9007199254740992 ≤ K i ∧ K i ≤ 9007199254740992 := fun i hi => by
  have a := (good_parts h).1 i hi
  have b := boxF_pos i
  omega
theorem tl_jump {K : Nat → Int} (hK : goodB K = true) {fr n : Nat} (L : Nat → Int) (k : Int) (hf : 4 ≤ fr) (hn : fr + n ≤ 10) : TlQ K (jpS K fr L n) (midF (tdF dl0 k) fr n (mvD (keepF K) fr L)) fr n := by
  have hk := (keep_fix hK).1
  have hg := jp_good K fr n L
  refine ⟨hg, fun i hi ho => ?_, fun i h4 h10 => ?_, fun i hi => ⟨good_bd hg i hi, good_bd hK i hi⟩⟩
  · rw [jp_at K L hf hi, mvS_at, if_neg (by omega), hk i hi]
  · rw [jp_at K L hf (by omega), mvS_at]
    unfold midF
    by_cases h : fr ≤ i ∧ i < fr + n
    · have a := mvX_bd fr L (i - fr)
      have c := boxF_pos (fr + (i - fr))
      have b := good_bd hK i (by omega)
      rw [if_pos h, if_pos h]
      unfold mvD
      rw [show fr + (i - fr) = i by omega] at *
      rw [hk i (by omega), (sub_plain (by omega) (by omega)).1]
    · rw [if_neg h, if_neg h, hk i (by omega)]
      unfold tdF dl0
      rw [if_pos h10, if_neg (by omega)]
      omega
theorem tl_turn {D : Nat → Int} (K L : Nat → Int) {fr n : Nat} (k : Int) (hf : 4 ≤ fr) (hD : midF (tdF dl0 k) fr n (mvD K fr L) = D) : arrv 4 (fun i => D (0 + i)) = arrv 4 oneQ := arrv_congr fun i hi => by
  subst hD
  rw [Nat.zero_add]
  unfold midF tdF dl0
  rw [if_neg (by omega), if_pos (by omega)]
  obtain rfl | rfl | rfl | rfl : i = 0 ∨ i = 1 ∨ i = 2 ∨ i = 3 := by omega
  all_goals rfl
theorem tl_yaw {K : Nat → Int} (hK : goodB K = true) (a : Int) : TlQ K (ywS K a) (ywT a) 0 4 := by
  have hk := (keep_fix hK).1
  have hg : goodB (ywS K a) = true := keep_good _
  have hi4 : ∀ i, 4 ≤ i → i < 24 → ywS K a i = K i := fun i h4 h24 => by
    have e : withF (keepF K) 0 4 (ywQ K a) i = K i := by
      unfold withF; rw [if_neg (by omega), hk i h24]
    unfold ywS
    rw [keep_hi h4 (by rw [e]; exact (good_parts hK).1 i h24), e]
  refine ⟨hg, fun i hi ho => hi4 i (by omega) hi, fun i h4 h10 => ?_, fun i hi => ⟨good_bd hg i hi, good_bd hK i hi⟩⟩
  rw [hi4 i h4 (by omega)]
  unfold ywT putF tdF dl0
  rw [if_neg (by omega), if_pos h10, if_neg (by omega)]
  omega
end Go.Proofs.Ytgfklheepkgedaa
