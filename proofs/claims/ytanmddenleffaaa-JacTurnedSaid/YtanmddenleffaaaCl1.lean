/- Sums; one elimination of two rows by a third, with its roundings. No program. -/
import Derived.Test.YtanmddenleffaaaS01
namespace Go.Proofs.Ytanmddenleffaaa
def sg (f : Nat → Int) : Nat → Int | 0 => 0 | n + 1 => sg f n + f n
theorem sg_congr {f g : Nat → Int} : ∀ {n : Nat}, (∀ k, k < n → f k = g k) → sg f n = sg g n
  | 0, _ => rfl
  | n + 1, h => by unfold sg; rw [sg_congr (n := n) fun k hk => h k (by omega), h n (by omega)]
theorem sg_le {f g : Nat → Int} : ∀ {n : Nat}, (∀ k, k < n → f k ≤ g k) → sg f n ≤ sg g n
  | 0, _ => Int.le_refl _
  | n + 1, h => by
    have h1 := sg_le (n := n) fun k hk => h k (by omega)
    have h2 := h n (by omega)
    unfold sg; omega
theorem sg_abs {f g : Nat → Int} : ∀ {n : Nat}, (∀ k, k < n → -(g k) ≤ f k ∧ f k ≤ g k) → -(sg g n) ≤ sg f n ∧ sg f n ≤ sg g n
  | 0, _ => by unfold sg; omega
  | n + 1, h => by
    have h1 := sg_abs (n := n) fun k hk => h k (by omega)
    have h2 := h n (by omega)
    unfold sg; omega
theorem sg_nonneg {f : Nat → Int} : ∀ {n : Nat}, (∀ k, k < n → 0 ≤ f k) → 0 ≤ sg f n
  | 0, _ => Int.le_refl _
  | n + 1, h => by
    have h1 := sg_nonneg (n := n) fun k hk => h k (by omega)
    have h2 := h n (by omega)
    unfold sg; omega
theorem sg_const (c : Int) : ∀ n : Nat, sg (fun _ => c) n = n * c
  | 0 => by simp [sg]
  | n + 1 => by unfold sg; rw [sg_const c n, Int.natCast_add, Int.add_mul]; simp
theorem sg_mul (c : Int) (f : Nat → Int) : ∀ n : Nat, sg (fun k => c * f k) n = c * sg f n
  | 0 => by simp [sg]
  | n + 1 => by unfold sg; rw [sg_mul c f n, Int.mul_add]
theorem sg_add (f g : Nat → Int) : ∀ n : Nat, sg (fun k => f k + g k) n = sg f n + sg g n
  | 0 => rfl
  | n + 1 => by unfold sg; rw [sg_add f g n]; omega
/-- One number among nonnegative ones. -/
theorem sg_one {f : Nat → Int} {a : Nat} : ∀ {n : Nat}, a < n → (∀ k, k < n → 0 ≤ f k) → f a ≤ sg f n
  | 0, h, _ => absurd h (Nat.not_lt_zero _)
  | n + 1, h, h0 => by
    unfold sg
    have h2 := h0 n (by omega)
    by_cases e : a = n
    · subst e
      have := sg_nonneg (n := a) fun k hk => h0 k (by omega)
      omega
    · have := sg_one (a := a) (n := n) (by omega) fun k hk => h0 k (by omega)
      omega
def ab (x : Int) : Int := (x.natAbs : Int)
theorem ab_bd (x : Int) : 0 ≤ ab x ∧ -(ab x) ≤ x ∧ x ≤ ab x := by unfold ab; omega
theorem ab_mul (x y : Int) : ab (x * y) = ab x * ab y := by unfold ab; rw [Int.natAbs_mul, Int.natCast_mul]
theorem ab_le {x k : Int} (h : ab x ≤ k) : -k ≤ x ∧ x ≤ k := by unfold ab at h; omega
theorem le_ab {x k : Int} (h : -k ≤ x ∧ x ≤ k) : ab x ≤ k := by unfold ab; omega
theorem ab_add (x y : Int) : ab (x + y) ≤ ab x + ab y := by unfold ab; omega
theorem ab_neg (x : Int) : ab (-x) = ab x := by unfold ab; omega
theorem sg_ab (f : Nat → Int) : ∀ n : Nat, ab (sg f n) ≤ sg (fun k => ab (f k)) n
  | 0 => by simp [sg, ab]
  | n + 1 => by
    have h := sg_ab f n
    have := ab_add (sg f n) (f n)
    unfold sg; omega
/-- The sum of products of two rows, weighted. -/
def gr (a b e : Nat → Int) : Int := sg (fun k => a k * b k * e k) 48
theorem el_id (a b v e r s ρ σ O u t : Int) (h1 : O * r = u * v + ρ) (h2 : O * s = t * v + σ) :
    O * O * ((a - r) * (b - s) * e) = O * O * (a * b * e) - O * u * (b * v * e) - O * t * (a * v * e) + u * t * (v * v * e) - O * (ρ * (b - s) * e) - O * (σ * (a - r) * e) - ρ * σ * e := by
  obtain rfl : ρ = O * r - u * v := by omega
  obtain rfl : σ = O * s - t * v := by omega
  grind
theorem el_sum (a b v e r s ρ σ : Nat → Int) (O u t : Int) : ∀ n : Nat, (∀ k, k < n → O * r k = u * v k + ρ k) → (∀ k, k < n → O * s k = t * v k + σ k) →
    O * O * sg (fun k => (a k - r k) * (b k - s k) * e k) n = O * O * sg (fun k => a k * b k * e k) n - O * u * sg (fun k => b k * v k * e k) n - O * t * sg (fun k => a k * v k * e k) n + u * t * sg (fun k => v k * v k * e k) n
      - O * sg (fun k => ρ k * (b k - s k) * e k) n - O * sg (fun k => σ k * (a k - r k) * e k) n - sg (fun k => ρ k * σ k * e k) n
  | 0, _, _ => by simp [sg]
  | n + 1, h1, h2 => by
    have ih := el_sum a b v e r s ρ σ O u t n (fun k hk => h1 k (by omega)) (fun k hk => h2 k (by omega))
    have hn := el_id (a n) (b n) (v n) (e n) (r n) (s n) (ρ n) (σ n) O u t (h1 n (by omega)) (h2 n (by omega))
    simp only [sg, Int.mul_add]
    omega
/-- What is left of two rows, told by what they were and the multiples that were taken away. -/
theorem el_core {a b v e r s ρ σ : Nat → Int} {O u t d εa εb εv : Int} (hr : ∀ k, k < 48 → O * r k = u * v k + ρ k) (hs : ∀ k, k < 48 → O * s k = t * v k + σ k)
    (hA : gr a v e = O * d * u - εa) (hB : gr b v e = O * d * t - εb) (hV : gr v v e = O * O * d - εv) :
    O * O * gr (fun k => a k - r k) (fun k => b k - s k) e = O * O * gr a b e - O * O * (u * t * d) + O * (u * εb) + O * (t * εa) - u * t * εv
      - O * sg (fun k => ρ k * (b k - s k) * e k) 48 - O * sg (fun k => σ k * (a k - r k) * e k) 48 - sg (fun k => ρ k * σ k * e k) 48 := by
  have h := el_sum a b v e r s ρ σ O u t 48 hr hs
  unfold gr at *
  rw [hA, hB, hV] at h
  generalize sg (fun k => (a k - r k) * (b k - s k) * e k) 48 = X at *
  generalize sg (fun k => a k * b k * e k) 48 = Y at *
  generalize sg (fun k => ρ k * (b k - s k) * e k) 48 = Z1 at *
  generalize sg (fun k => σ k * (a k - r k) * e k) 48 = Z2 at *
  generalize sg (fun k => ρ k * σ k * e k) 48 = Z3 at *
  grind
/-- A sum of products with numbers up to m. -/
theorem sg_bd {x y : Nat → Int} {m : Int} {n : Nat} (h : ∀ k, k < n → ab (x k) ≤ m) : ab (sg (fun k => x k * y k) n) ≤ m * sg (fun k => ab (y k)) n := by
  rw [← sg_mul]
  refine Int.le_trans (sg_ab _ _) (sg_le fun k hk => ?_)
  rw [ab_mul]
  exact Int.mul_le_mul_of_nonneg_right (h k hk) (ab_bd _).1
theorem sq_nn (x : Int) : 0 ≤ x * x := by
  by_cases h : 0 ≤ x
  · exact Int.mul_nonneg h h
  · have := Int.mul_nonneg (a := -x) (b := -x) (by omega) (by omega)
    rwa [Int.neg_mul_neg] at this
/-- Products of two rows, by their squares: 2 t x y is at most x x + t t y y. -/
theorem gr_two (a b e : Nat → Int) (he : ∀ k, k < 48 → 0 ≤ e k) (t : Int) : ab (2 * t * gr a b e) ≤ gr a a e + t * t * gr b b e := by
  have h1 : ∀ k, k < 48 → -(a k * a k * e k + t * t * (b k * b k * e k)) ≤ 2 * t * (a k * b k * e k) ∧ 2 * t * (a k * b k * e k) ≤ a k * a k * e k + t * t * (b k * b k * e k) := by
    intro k hk
    have p := Int.mul_nonneg (sq_nn (a k - t * b k)) (he k hk)
    have q := Int.mul_nonneg (sq_nn (a k + t * b k)) (he k hk)
    grind
  have h2 := sg_abs h1
  rw [sg_mul, sg_add, sg_mul] at h2
  exact le_ab h2
theorem cl_rshmul (e : Int) : rsh (1073741824 * e) 30 = e := by
  have h2 : ((2 : Int) ^ 30) = 1073741824 := by decide
  unfold rsh rdiv
  rw [h2]
  have : (1073741824 * e).natAbs = 1073741824 * e.natAbs := by rw [Int.natAbs_mul]; rfl
  rw [this, show (1073741824 : Int).natAbs = 1073741824 from rfl]
  have e1 : (2 * (1073741824 * e.natAbs) + 1073741824) / (2 * 1073741824) = e.natAbs := by omega
  rw [e1]
  by_cases he : 0 ≤ e
  · rw [if_pos (by simp; omega)]; omega
  · rw [if_neg (by simp; omega)]; omega
theorem cl_varV {a : Int} (h : 1 ≤ a) (h' : a ≤ 72057594037927936) : varV a = a ∧ varH a = false := by
  constructor
  · unfold varV clampV; rw [if_neg (by omega), if_neg (by omega), if_neg (by omega)]
  · unfold varH clampH; simp; omega
theorem cl_subV {a b : Int} (ha : SB a) (hb : SB b) (h : SB (a - b)) : subV a b = a - b ∧ subH a b = false := by
  unfold subV subH
  rw [satV_sb ha, satV_sb hb, satV_sb h, satH_sb ha, satH_sb hb, satH_sb h]; exact ⟨rfl, rfl⟩
theorem cl_rdivnn {x d : Int} (hx : 0 ≤ x) (hd : 0 < d) : 0 ≤ rdiv x d := by
  unfold rdiv
  rw [if_pos (by simp [hx, hd])]; exact Int.natCast_nonneg _
theorem cl_divV {a b : Int} (ha : SB a) (hb : SB b) (h0 : b ≠ 0) (h : SB (rdiv (a * 1073741824) b)) : divV a b 30 = rdiv (a * 1073741824) b ∧ divH a b 30 = false := by
  have e : (2 : Int) ^ (30 : Int).toNat = 1073741824 := by decide
  unfold divV divH byV byH
  rw [if_neg (by decide), satV_sb ha, satV_sb hb, e, satV_sb h, satH_sb ha, satH_sb hb, satH_sb h, if_neg h0]
  refine ⟨rfl, ?_⟩
  simp; exact h0
theorem cl_rshnp {x : Int} (h : x ≤ 0) : rsh x 30 ≤ 0 := by
  have := rsh_err x
  omega
theorem cl_rshnn {x : Int} (h : 0 ≤ x) : 0 ≤ rsh x 30 := cl_rdivnn h (by decide)
theorem cl_rdiv0 {d : Int} (h : d ≠ 0) : rdiv 0 d = 0 := by
  unfold rdiv
  have : (2 * (0 : Int).natAbs + d.natAbs) / (2 * d.natAbs) = 0 := Nat.div_eq_of_lt (by have := Int.natAbs_pos.2 h; simp; omega)
  rw [this]
  split <;> rfl
end Go.Proofs.Ytanmddenleffaaa
