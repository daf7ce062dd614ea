/- Contracts of the program's functions and plain laws, part 6: they hold for all arguments. -/
import Derived.Test.YtanmddenleffaaaQ05
import Derived.Test.YtanmddenleffaaaQ04
/- A covariance's step of closed numbers, xs the kernel can reckon it: lists of plain numbers (was no number clamped?). No program. -/
namespace Go.Proofs.Ytanmddenleffaaa
/-- A number made plain before it is used: the kernel then reckons with it once. -/
def fcN {α : Type} (n : Nat) (f : Nat → α) : α := match n with | 0 => f 0 | m + 1 => f (m + 1)
theorem fcN_eq {α : Type} (n : Nat) (f : Nat → α) : fcN n f = f n := by cases n <;> rfl
def fcI {α : Type} (x : Int) (f : Int → α) : α := match x with | .ofNat n => fcN n fun n => f (.ofNat n) | .negSucc n => fcN n fun n => f (.negSucc n)
theorem fcI_eq {α : Type} (x : Int) (f : Int → α) : fcI x f = f x := by
  cases x with
  | ofNat n => show fcN n (fun n => f (.ofNat n)) = _; rw [fcN_eq]
  | negSucc n => show fcN n (fun n => f (.negSucc n)) = _; rw [fcN_eq]
/-- f's numbers from m on, n of them, xs a list of plain numbers. -/
def tbL (f : Nat → Int) (m : Nat) : Nat → List Int
  | 0 => []
  | n + 1 => fcI (f m) fun x => x :: tbL f (m + 1) n
def lsF {α : Type} (f : Nat → α) (m : Nat) : Nat → List α | 0 => [] | n + 1 => f m :: lsF f (m + 1) n
theorem tbL_eq (f : Nat → Int) : ∀ n m, tbL f m n = lsF f m n
  | 0, _ => rfl
  | n + 1, m => by
    unfold tbL lsF
    rw [fcI_eq, tbL_eq f n (m + 1)]
theorem lsF_congr {α : Type} {f g : Nat → α} : ∀ {n m : Nat}, (∀ k, m ≤ k → k < m + n → f k = g k) → lsF f m n = lsF g m n
  | 0, _, _ => rfl
  | n + 1, m, h => by
    unfold lsF
    rw [h m (by omega) (by omega), lsF_congr (n := n) (m := m + 1) fun k h1 h2 => h k (by omega) (by omega)]
theorem lsF_shift {α : Type} (f : Nat → α) (c : Nat) : ∀ n m, lsF f (c + m) n = lsF (fun k => f (c + k)) m n
  | 0, _ => rfl
  | n + 1, m => by
    unfold lsF
    rw [Nat.add_assoc, lsF_shift f c n (m + 1)]
/-- Products, rounded; and whether none was clamped. -/
def mulL : List Int → List Int → List Int
  | a :: xs, b :: ys => fcI (mulV a b 30) fun c => c :: mulL xs ys
  | _, _ => []
def mulO : List Int → List Int → Bool
  | a :: xs, b :: ys => if mulH a b 30 then false else mulO xs ys
  | _, _ => true
def dotA (s : Int) : List Int → List Int → Int
  | a :: xs, b :: ys => fcI (s + satV a * satV b) fun t => dotA t xs ys
  | _, _ => s
def dotO : List Int → List Int → Bool
  | a :: xs, b :: ys => if satH a || satH b then false else dotO xs ys
  | _, _ => true
/-- w - u r, rounded. -/
def elL (u : Int) : List Int → List Int → List Int
  | a :: xs, b :: ys => fcI (subV a (mulV u b 30)) fun c => c :: elL u xs ys
  | _, _ => []
def elO (u : Int) : List Int → List Int → Bool
  | a :: xs, b :: ys => if mulH u b 30 || subH a (mulV u b 30) then false else elO u xs ys
  | _, _ => true
theorem mulL_ls (A B : Nat → Int) : ∀ n m, mulL (lsF A m n) (lsF B m n) = lsF (fun k => mulV (A k) (B k) 30) m n
  | 0, _ => rfl
  | n + 1, m => by
    unfold lsF mulL
    rw [fcI_eq, mulL_ls A B n (m + 1)]
theorem mulO_ls (A B : Nat → Int) : ∀ n m, mulO (lsF A m n) (lsF B m n) = true → ∀ k, m ≤ k → k < m + n → mulH (A k) (B k) 30 = false
  | 0, _, _, k, h1, h2 => by omega
  | n + 1, m, h, k, h1, h2 => by
    unfold lsF mulO at h
    cases e : mulH (A m) (B m) 30 with
    | true => rw [e] at h; cases h
    | false =>
      rw [e] at h
      by_cases hk : k = m
      · rw [hk]; exact e
      · exact mulO_ls A B n (m + 1) h k (by omega) (by omega)
theorem dotA_ls (A B : Nat → Int) : ∀ n m, dotA (dotS A B m) (lsF A m n) (lsF B m n) = dotS A B (m + n)
  | 0, _ => rfl
  | n + 1, m => by
    unfold lsF dotA
    rw [fcI_eq, show dotS A B m + satV (A m) * satV (B m) = dotS A B (m + 1) from rfl, dotA_ls A B n (m + 1), show m + 1 + n = m + (n + 1) by omega]
theorem dotO_ls (A B : Nat → Int) : ∀ n m, dotO (lsF A m n) (lsF B m n) = true → ∀ k, m ≤ k → k < m + n → satH (A k) = false ∧ satH (B k) = false
  | 0, _, _, k, h1, h2 => by omega
  | n + 1, m, h, k, h1, h2 => by
    unfold lsF dotO at h
    cases e : (satH (A m) || satH (B m)) with
    | true => rw [e] at h; cases h
    | false =>
      rw [e] at h
      by_cases hk : k = m
      · rw [hk]; simpa using e
      · exact dotO_ls A B n (m + 1) h k (by omega) (by omega)
theorem stl_dotB {A B : Nat → Int} : ∀ {n : Nat}, (∀ k, k < n → satH (A k) = false ∧ satH (B k) = false) → dotB A B n = false
  | 0, _ => rfl
  | n + 1, h => by
    unfold dotB
    rw [stl_dotB (n := n) fun k hk => h k (by omega), (h n (by omega)).1, (h n (by omega)).2]; rfl
theorem elL_ls (u : Int) (A B : Nat → Int) : ∀ n m, elL u (lsF A m n) (lsF B m n) = lsF (fun k => subV (A k) (mulV u (B k) 30)) m n
  | 0, _ => rfl
  | n + 1, m => by
    unfold lsF elL
    rw [fcI_eq, elL_ls u A B n (m + 1)]
theorem elO_ls (u : Int) (A B : Nat → Int) : ∀ n m, elO u (lsF A m n) (lsF B m n) = true → ∀ k, m ≤ k → k < m + n → (mulH u (B k) 30 || subH (A k) (mulV u (B k) 30)) = false
  | 0, _, _, k, h1, h2 => by omega
  | n + 1, m, h, k, h1, h2 => by
    unfold lsF elO at h
    cases e : (mulH u (B m) 30 || subH (A m) (mulV u (B m) 30)) with
    | true => rw [e] at h; cases h
    | false =>
      rw [e] at h
      by_cases hk : k = m
      · rw [hk]; exact e
      · exact elO_ls u A B n (m + 1) h k (by omega) (by omega)
/-- The rows left of the stage's row, and whether none was clamped: y is the row's products, r the row, d its variance. -/
def rwL (d : Int) (r y : List Int) : List (List Int) → List (List Int)
  | [] => []
  | w :: ws => fcI (divV (satV (rsh (dotA 0 w y) 30)) d 30) fun u => elL u w r :: rwL d r y ws
def rwO (d : Int) (r y : List Int) : List (List Int) → Bool
  | [] => true
  | w :: ws => fcI (rsh (dotA 0 w y) 30) fun s => if satH s || divH (satV s) d 30 then false else fcI (divV (satV s) d 30) fun u => if dotO w y && elO u w r then rwO d r y ws else false
/-- All stages, the last row first: were no numbers clamped? -/
def rnO : Nat → List (List Int) → List Int → Bool
  | 0, _, _ => true
  | n + 1, r :: rs, e => if mulO r e then
      (fun y => fcI (rsh (dotA 0 r y) 30) fun s => if satH s || varH (satV s) then false else if dotO r y then
        fcI (varV (satV s)) fun d => if rwO d r y rs then rnO n (rwL d r y rs) e else false else false) (mulL r e) else false
  | _ + 1, [], _ => true
theorem dotV_30 (A B : Nat → Int) (n : Nat) : dotV 30 A B n = satV (rsh (dotS A B n) 30) := by
  unfold dotV; rw [if_neg (by decide)]; rfl
theorem dotH_30 (A B : Nat → Int) (n : Nat) : dotH 30 A B n = (dotB A B n || satH (rsh (dotS A B n) 30)) := by
  unfold dotH; rw [if_neg (by decide)]; rfl
theorem dotA_all (A B : Nat → Int) (n : Nat) : dotA 0 (lsF A 0 n) (lsF B 0 n) = dotS A B n := by
  have := dotA_ls A B n 0
  rw [Nat.zero_add] at this
  exact this
theorem rwL_ls (d : Int) (R Y : Nat → Int) (q : Nat) (V : Nat → Nat → Int) : ∀ n m, rwL d (lsF R 0 q) (lsF Y 0 q) (lsF (fun t => lsF (V t) 0 q) m n) =
    lsF (fun t => lsF (fun k => subV (V t k) (mulV (divV (dotV 30 (V t) Y q) d 30) (R k) 30)) 0 q) m n
  | 0, _ => rfl
  | n + 1, m => by
    rw [show lsF (fun t => lsF (V t) 0 q) m (n + 1) = lsF (V m) 0 q :: lsF (fun t => lsF (V t) 0 q) (m + 1) n from rfl]
    unfold rwL
    rw [fcI_eq, dotA_all, ← dotV_30, elL_ls, rwL_ls d R Y q V n (m + 1)]; rfl
theorem rwO_ls (d : Int) (R Y : Nat → Int) (q : Nat) (V : Nat → Nat → Int) : ∀ n m, rwO d (lsF R 0 q) (lsF Y 0 q) (lsF (fun t => lsF (V t) 0 q) m n) = true →
    ∀ t, m ≤ t → t < m + n → (dotH 30 (V t) Y q || divH (dotV 30 (V t) Y q) d 30) = false ∧ ∀ k, k < q → (mulH (divV (dotV 30 (V t) Y q) d 30) (R k) 30 || subH (V t k) (mulV (divV (dotV 30 (V t) Y q) d 30) (R k) 30)) = false
  | 0, _, _, t, h1, h2 => by omega
  | n + 1, m, h, t, h1, h2 => by
    rw [show lsF (fun t => lsF (V t) 0 q) m (n + 1) = lsF (V m) 0 q :: lsF (fun t => lsF (V t) 0 q) (m + 1) n from rfl] at h
    unfold rwO at h
    rw [fcI_eq, dotA_all, ← dotV_30, fcI_eq] at h
    cases e1 : (satH (rsh (dotS (V m) Y q) 30) || divH (dotV 30 (V m) Y q) d 30) with
    | true => rw [e1] at h; cases h
    | false =>
      rw [e1] at h
      simp only [Bool.false_eq_true, if_false] at h
      cases e2 : (dotO (lsF (V m) 0 q) (lsF Y 0 q) && elO (divV (dotV 30 (V m) Y q) d 30) (lsF (V m) 0 q) (lsF R 0 q)) with
      | false => rw [e2] at h; cases h
      | true =>
        rw [e2] at h
        simp only [if_true] at h
        by_cases ht : t = m
        · subst ht
          rw [Bool.and_eq_true] at e2
          rw [Bool.or_eq_false_iff] at e1
          have o := dotO_ls (V t) Y q 0 e2.1
          have o2 := elO_ls _ (V t) R q 0 e2.2
          refine ⟨?_, fun k hk => o2 k (by omega) (by omega)⟩
          rw [dotH_30, stl_dotB fun k hk => o k (by omega) (by omega), e1.1, e1.2]; rfl
        · exact rwO_ls d R Y q V n (m + 1) h t (by omega) (by omega)
/-- The rows of W from row j down. -/
def RR (W : Nat → Int) (j n : Nat) : List (List Int) := lsF (fun t => lsF (rowF 48 W (j - t)) 0 48) 0 n
theorem orB_none {p : Nat → Bool} : ∀ {n : Nat}, (∀ i, i < n → p i = false) → orB p n = false
  | 0, _ => rfl
  | n + 1, h => by unfold orB; rw [orB_none (n := n) fun i hi => h i (by omega), h n (by omega)]; rfl
theorem rnO_ls (W e : Nat → Int) : ∀ n, n ≤ 24 → rnO n (RR (WN W e (24 - n)) (n - 1) n) (lsF e 0 48) = true → ∀ m, 24 - n ≤ m → m < 24 → stageH (WN W e m) e (23 - m) = false
  | 0, _, _, m, h1, h2 => by omega
  | n + 1, hn, h, m, h1, h2 => by
    obtain ⟨V, hV⟩ : ∃ V, WN W e (24 - (n + 1)) = V := ⟨_, rfl⟩
    rw [hV] at h
    rw [show n + 1 - 1 = n by omega] at h
    have hR : RR V n (n + 1) = lsF (rowF 48 V n) 0 48 :: lsF (fun t => lsF (rowF 48 V (n - (1 + t))) 0 48) 0 n := by
      show lsF (rowF 48 V (n - 0)) 0 48 :: lsF (fun t => lsF (rowF 48 V (n - t)) 0 48) (0 + 1) n = _
      rw [show 0 + 1 = 1 + 0 from rfl, lsF_shift _ 1 n 0]; rfl
    rw [hR] at h
    unfold rnO at h
    cases e1 : mulO (lsF (rowF 48 V n) 0 48) (lsF e 0 48) with
    | false => rw [e1] at h; cases h
    | true =>
      rw [e1, mulL_ls] at h
      simp only [if_true] at h
      have eY : (fun k => mulV (rowF 48 V n k) (e k) 30) = stY V e n := rfl
      rw [eY, fcI_eq, dotA_all, ← dotV_30, fcI_eq] at h
      have eD : varV (dotV 30 (rowF 48 V n) (stY V e n) 48) = stD V e n := rfl
      rw [eD] at h
      cases e2 : (satH (rsh (dotS (rowF 48 V n) (stY V e n) 48) 30) || varH (dotV 30 (rowF 48 V n) (stY V e n) 48)) with
      | true => rw [e2] at h; cases h
      | false =>
        rw [e2] at h
        simp only [Bool.false_eq_true, if_false] at h
        cases e3 : dotO (lsF (rowF 48 V n) 0 48) (lsF (stY V e n) 0 48) with
        | false => rw [e3] at h; cases h
        | true =>
          rw [e3] at h
          simp only [if_true] at h
          cases e4 : rwO (stD V e n) (lsF (rowF 48 V n) 0 48) (lsF (stY V e n) 0 48) (lsF (fun t => lsF (rowF 48 V (n - (1 + t))) 0 48) 0 n) with
          | false => rw [e4] at h; cases h
          | true =>
            rw [e4] at h
            simp only [if_true] at h
            rw [rwL_ls (stD V e n) (rowF 48 V n) (stY V e n) 48 (fun t => rowF 48 V (n - (1 + t))) n 0] at h
            have hW : WN W e (24 - n) = elW V e n n 0 := by
              rw [show 24 - n = (24 - (n + 1)) + 1 by omega]
              show elW (WN W e (24 - (n + 1))) e (23 - (24 - (n + 1))) (23 - (24 - (n + 1))) 0 = _
              rw [hV, show 23 - (24 - (n + 1)) = n by omega]
            have hN : RR (WN W e (24 - n)) (n - 1) n = lsF (fun t => lsF (fun k => subV (rowF 48 V (n - (1 + t)) k) (mulV (divV (dotV 30 (rowF 48 V (n - (1 + t))) (stY V e n) 48) (stD V e n) 30) (rowF 48 V n k) 30)) 0 48) 0 n := by
              unfold RR
              refine lsF_congr fun t h1 h2 => lsF_congr fun k h3 h4 => ?_
              rw [hW]
              unfold rowF elW elV stU rowF
              rw [show ((n - 1 - t) * 48 + k) / 48 = n - (1 + t) by omega, show ((n - 1 - t) * 48 + k) % 48 = k by omega, if_pos (by omega)]
            by_cases hm : m = 24 - (n + 1)
            · subst hm
              rw [hV, show 23 - (24 - (n + 1)) = n by omega]
              rw [Bool.or_eq_false_iff] at e2
              have o := dotO_ls (rowF 48 V n) (stY V e n) 48 0 e3
              have q := mulO_ls (rowF 48 V n) e 48 0 e1
              have s := rwO_ls (stD V e n) (rowF 48 V n) (stY V e n) 48 (fun t => rowF 48 V (n - (1 + t))) n 0 e4
              unfold stageH
              rw [orB_none (p := yB V e n) fun k hk => q k (by omega) (by omega)]
              rw [show dB V e n = false by unfold dB; rw [dotH_30, stl_dotB fun k hk => o k (by omega) (by omega), e2.1, e2.2]; rfl]
              rw [orB_none fun i hi => ?_]; rfl
              have si := s (n - 1 - i) (by omega) (by omega)
              simp only [show n - (1 + (n - 1 - i)) = i by omega] at si
              unfold rowB uB
              have su : stU V e n i = divV (dotV 30 (rowF 48 V i) (stY V e n) 48) (stD V e n) 30 := rfl
              rw [si.1, su, orB_none (p := elB V (divV (dotV 30 (rowF 48 V i) (stY V e n) 48) (stD V e n) 30) n i) fun k hk => si.2 k hk]; rfl
            · rw [← hN] at h
              exact rnO_ls W e n (by omega) h m (by omega) h2
theorem HN_no (W e : Nat → Int) : ∀ n, (∀ m, m < n → stageH (WN W e m) e (23 - m) = false) → HN W e n = false
  | 0, _ => rfl
  | n + 1, h => by unfold HN; rw [HN_no W e n fun m hm => h m (by omega), h n (by omega)]; rfl
theorem rnO_all {W e : Nat → Int} (h : rnO 24 (RR W 23 24) (lsF e 0 48) = true) : HN W e 24 = false :=
  HN_no W e 24 fun m hm => rnO_ls W e 24 (Nat.le_refl _) h m (by omega) hm
/-- A list made plain. -/
def fcL {α : Type} : List Int → (List Int → α) → α
  | [], f => f []
  | x :: xs, f => fcI x fun y => fcL xs fun ys => f (y :: ys)
theorem fcL_eq {α : Type} : ∀ (l : List Int) (f : List Int → α), fcL l f = f l
  | [], _ => rfl
  | x :: xs, f => by unfold fcL; rw [fcI_eq, fcL_eq xs]
def fcLL {α : Type} : List (List Int) → (List (List Int) → α) → α
  | [], f => f []
  | x :: xs, f => fcL x fun y => fcLL xs fun ys => f (y :: ys)
theorem fcLL_eq {α : Type} : ∀ (l : List (List Int)) (f : List (List Int) → α), fcLL l f = f l
  | [], _ => rfl
  | x :: xs, f => by unfold fcLL; rw [fcL_eq, fcLL_eq xs]
/-- A row of the matrix times the factors' columns. -/
def rcL (g : List Int) : List (List Int) → List Int
  | [] => []
  | c :: cs => fcI (satV (rsh (dotA 0 g c) 30)) fun x => x :: rcL g cs
def rcO (g : List Int) : List (List Int) → Bool
  | [] => true
  | c :: cs => if dotO g c then if satH (rsh (dotA 0 g c) 30) then false else rcO g cs else false
theorem rcL_ls (A : Nat → Int) (V : Nat → Nat → Int) (q : Nat) : ∀ n m, rcL (lsF A 0 q) (lsF (fun t => lsF (V t) 0 q) m n) = lsF (fun t => dotV 30 A (V t) q) m n
  | 0, _ => rfl
  | n + 1, m => by
    rw [show lsF (fun t => lsF (V t) 0 q) m (n + 1) = lsF (V m) 0 q :: lsF (fun t => lsF (V t) 0 q) (m + 1) n from rfl]
    unfold rcL
    rw [fcI_eq, dotA_all, ← dotV_30, rcL_ls A V q n (m + 1)]; rfl
theorem rcO_ls (A : Nat → Int) (V : Nat → Nat → Int) (q : Nat) : ∀ n m, rcO (lsF A 0 q) (lsF (fun t => lsF (V t) 0 q) m n) = true → ∀ t, m ≤ t → t < m + n → dotH 30 A (V t) q = false
  | 0, _, _, t, h1, h2 => by omega
  | n + 1, m, h, t, h1, h2 => by
    rw [show lsF (fun t => lsF (V t) 0 q) m (n + 1) = lsF (V m) 0 q :: lsF (fun t => lsF (V t) 0 q) (m + 1) n from rfl] at h
    unfold rcO at h
    rw [dotA_all] at h
    cases e1 : dotO (lsF A 0 q) (lsF (V m) 0 q) with
    | false => rw [e1] at h; cases h
    | true =>
      rw [e1] at h
      cases e2 : satH (rsh (dotS A (V m) q) 30) with
      | true => rw [e2] at h; cases h
      | false =>
        rw [e2] at h
        by_cases ht : t = m
        · subst ht
          have o := dotO_ls A (V t) q 0 e1
          rw [dotH_30, stl_dotB fun k hk => o k (by omega) (by omega), e2]; rfl
        · exact rcO_ls A V q n (m + 1) h t (by omega) (by omega)
theorem lsF_app {α : Type} (f : Nat → α) : ∀ n m k, lsF f m n ++ lsF f (m + n) k = lsF f m (n + k)
  | 0, m, k => by simp [lsF]
  | n + 1, m, k => by
    rw [show n + 1 + k = (n + k) + 1 by omega]
    show f m :: (lsF f (m + 1) n ++ lsF f (m + (n + 1)) k) = f m :: lsF f (m + 1) (n + k)
    rw [show m + (n + 1) = m + 1 + n by omega, lsF_app f n (m + 1) k]
theorem lsF_half (F : Nat → Int) : lsF F 0 48 = lsF F 0 24 ++ lsF (fun k => F (24 + k)) 0 24 := by
  rw [← lsF_shift F 24 24 0, show 24 + 0 = 0 + 24 from rfl, lsF_app F 24 0 24]
/-- The rows of the products, the last one first. -/
def rcLL (cs : List (List Int)) : List (List Int) → Nat → List (List Int)
  | [], _ => []
  | g :: gs, i => (rcL g cs ++ tbL (fun k => if k = i then 1073741824 else 0) 0 24) :: rcLL cs gs (i - 1)
def rcOO (cs : List (List Int)) : List (List Int) → Bool
  | [] => true
  | g :: gs => if rcO g cs then rcOO cs gs else false
theorem rcLL_ls (V G : Nat → Nat → Int) : ∀ n m j, rcLL (lsF (fun t => lsF (V t) 0 24) 0 24) (lsF (fun t => lsF (G (j - t)) 0 24) m n) (j - m) =
    lsF (fun t => lsF (fun k => if k < 24 then dotV 30 (G (j - t)) (V k) 24 else if k = 24 + (j - t) then 1073741824 else 0) 0 48) m n
  | 0, _, _ => rfl
  | n + 1, m, j => by
    rw [show lsF (fun t => lsF (G (j - t)) 0 24) m (n + 1) = lsF (G (j - m)) 0 24 :: lsF (fun t => lsF (G (j - t)) 0 24) (m + 1) n from rfl]
    unfold rcLL
    rw [rcL_ls, tbL_eq, show j - m - 1 = j - (m + 1) by omega, rcLL_ls V G n (m + 1) j]
    show _ = lsF _ 0 48 :: lsF _ (m + 1) n
    congr 1
    rw [lsF_half (fun k => if k < 24 then dotV 30 (G (j - m)) (V k) 24 else if k = 24 + (j - m) then 1073741824 else 0)]
    refine congr (congrArg HAppend.hAppend (lsF_congr fun k _ h => ?_)) (lsF_congr fun k _ h => ?_)
    · rw [if_pos (by omega)]
    · by_cases e : k = j - m
      · rw [if_pos e, if_neg (by omega), if_pos (by omega)]
      · rw [if_neg e, if_neg (by omega), if_neg (by omega)]
theorem rcOO_ls (cs : List (List Int)) (G : Nat → List Int) : ∀ n m, rcOO cs (lsF G m n) = true → ∀ t, m ≤ t → t < m + n → rcO (G t) cs = true
  | 0, _, _, t, h1, h2 => by omega
  | n + 1, m, h, t, h1, h2 => by
    unfold lsF rcOO at h
    cases e : rcO (G m) cs with
    | false => rw [e] at h; cases h
    | true =>
      rw [e] at h
      by_cases ht : t = m
      · rw [ht]; exact e
      · exact rcOO_ls cs G n (m + 1) h t (by omega) (by omega)
/-- A step of closed numbers, xs the kernel reckons it: were no numbers clamped? G: the matrix (clamped), V k: the factors' columns, e the weights. -/
def stO (G V : Nat → Nat → Int) (e : Nat → Int) : Bool :=
  fcLL (lsF (fun t => lsF (V t) 0 24) 0 24) fun cs => fcLL (lsF (fun t => lsF (G (23 - t)) 0 24) 0 24) fun gs => fcL (lsF e 0 48) fun es =>
    if rcOO cs gs then fcLL (rcLL cs gs 23) fun rs => rnO 24 rs es else false
theorem stO_ok {G V : Nat → Nat → Int} {e : Nat → Int} {W : Nat → Int} (h : stO G V e = true) (hW : ∀ i k, i < 24 → k < 48 → W (i * 48 + k) = if k < 24 then dotV 30 (G i) (V k) 24 else if k = 24 + i then 1073741824 else 0) :
    (∀ i k, i < 24 → k < 24 → dotH 30 (G i) (V k) 24 = false) ∧ HN W e 24 = false := by
  unfold stO at h
  rw [fcLL_eq, fcLL_eq, fcL_eq] at h
  cases e1 : rcOO (lsF (fun t => lsF (V t) 0 24) 0 24) (lsF (fun t => lsF (G (23 - t)) 0 24) 0 24) with
  | false => rw [e1] at h; cases h
  | true =>
    rw [e1, fcLL_eq, show (23 : Nat) = 23 - 0 from rfl, rcLL_ls V G 24 0 23] at h
    simp only [if_true] at h
    refine ⟨fun i k hi hk => ?_, rnO_all ?_⟩
    · have a := rcOO_ls _ _ 24 0 e1 (23 - i) (by omega) (by omega)
      simp only [show 23 - (23 - i) = i by omega] at a
      exact rcO_ls (G i) V 24 24 0 a k (by omega) (by omega)
    · rw [← h]
      congr 1
      unfold RR
      refine lsF_congr fun t h1 h2 => lsF_congr fun k h3 h4 => ?_
      unfold rowF
      rw [hW (23 - t) k (by omega) (by omega)]
end Go.Proofs.Ytanmddenleffaaa
/- The numbers of jac's Turned. No program beyond the numbers' names. -/
namespace Go.Proofs.Ytanmddenleffaaa
/-- A number, twice, behind n numbers. -/
def ap2 (A : Nat → Int) (n : Nat) (a : Int) : Nat → Int := upd (upd A n a) (n + 1) a
def zF : Nat → Int := fun _ => 0
/-- The first column's sum. -/
def fiA (Q : Nat → Int) (r : Nat) : Nat → Int := ap2 (ap2 (ap2 zF 0 (Q 0)) 2 (Q (1 + (r + 1) % 3))) 4 (-(Q (1 + (r + 2) % 3)))
def fiB (A : Nat → Int) (r : Nat) : Nat → Int := ap2 (ap2 (ap2 zF 0 (A r)) 2 (A ((r + 2) % 3))) 4 (A ((r + 1) % 3))
/-- The other columns' sums. -/
def s2A (Q : Nat → Int) (r i : Nat) : Nat → Int := ap2 (ap2 zF 0 (-(Q (1 + i)))) 2 (Q (1 + r))
def s2B (A : Nat → Int) (r i : Nat) : Nat → Int := ap2 (ap2 zF 0 (A r)) 2 (A i)
def s5A (Q : Nat → Int) (r i : Nat) : Nat → Nat → Int | 0 => s2A Q r i | n + 1 => ap2 (s5A Q r i n) (4 + 2 * n) (Q (1 + n))
def s5B (A : Nat → Int) (r i : Nat) : Nat → Nat → Int | 0 => s2B A r i | n + 1 => ap2 (s5B A r i n) (4 + 2 * n) (A n)
def suA (Q : Nat → Int) (r i : Nat) : Nat → Int := if r = i then s5A Q r i 3 else if r = (i + 1) % 3 then ap2 (s2A Q r i) 4 (-(Q 0)) else ap2 (s2A Q r i) 4 (Q 0)
def suB (A : Nat → Int) (r i : Nat) : Nat → Int := if r = i then s5B A r i 3 else if r = (i + 1) % 3 then ap2 (s2B A r i) 4 (A ((i + 2) % 3)) else ap2 (s2B A r i) 4 (A ((i + 1) % 3))
def suN (r i : Nat) : Nat := if r = i then 10 else 6
/-- Turned, of numbers that are clamped already. -/
def tnF (Q A : Nat → Int) : Nat → Int := fun x => if x % 4 = 0 then dotV 30 (fiA Q (x / 4)) (fiB A (x / 4)) 6 else dotV 30 (suA Q (x / 4) (x % 4 - 1)) (suB A (x / 4) (x % 4 - 1)) (suN (x / 4) (x % 4 - 1))
def tnI (Q A : Nat → Int) (r : Nat) : Nat → Bool := fun i => dotH 30 (suA Q r i) (suB A r i) (suN r i)
def tnB (Q A : Nat → Int) : Nat → Bool := fun r => dotH 30 (fiA Q r) (fiB A r) 6 || orB (tnI Q A r) 3
def satF (F : Nat → Int) : Nat → Int := fun i => satV (F i)
def tuF (Q A : Nat → Int) : Nat → Int := tnF (satF Q) (satF A)
def tuH (Q A : Nat → Int) : Bool := orB (fun i => satH (Q i)) 4 || orB (fun i => satH (A i)) 3 || orB (tnB (satF Q) (satF A)) 3
/-- k rows are done, and of row k the first m numbers. -/
def tnK (Q A : Nat → Int) (k m : Nat) : Nat → Int := fun x => if x / 4 < k ∨ (x / 4 = k ∧ x % 4 < m) then tnF Q A x else 0
theorem tnK_first (Q A : Nat → Int) (k : Nat) : ∀ x, upd (tnK Q A k 0) (k * 4) (dotV 30 (fiA Q k) (fiB A k) 6) x = tnK Q A k 1 x := fun x => by
  unfold upd tnK
  by_cases h : x = k * 4
  · rw [if_pos h, if_pos (by omega)]
    unfold tnF
    rw [if_pos (by omega), show x / 4 = k by omega]
  · rw [if_neg h]
    by_cases h2 : x / 4 < k
    · rw [if_pos (.inl h2), if_pos (.inl h2)]
    · rw [if_neg (by omega), if_neg (by omega)]
theorem tnK_next (Q A : Nat → Int) (k : Nat) {i : Nat} (hi : i < 3) : ∀ x, upd (tnK Q A k (1 + i)) (k * 4 + (1 + i)) (dotV 30 (suA Q k i) (suB A k i) (suN k i)) x = tnK Q A k (1 + (i + 1)) x := fun x => by
  unfold upd tnK
  by_cases h : x = k * 4 + (1 + i)
  · rw [if_pos h, if_pos (by omega)]
    unfold tnF
    rw [if_neg (by omega), show x / 4 = k by omega, show x % 4 - 1 = i by omega]
  · rw [if_neg h]
    by_cases h2 : x / 4 < k ∨ (x / 4 = k ∧ x % 4 < 1 + i)
    · rw [if_pos h2, if_pos (by omega)]
    · rw [if_neg h2, if_neg (by omega)]
theorem tnK_row (Q A : Nat → Int) (k : Nat) : ∀ x, tnK Q A k 4 x = tnK Q A (k + 1) 0 x := fun x => by
  unfold tnK
  by_cases h : x / 4 < k + 1
  · rw [if_pos (by omega), if_pos (.inl h)]
  · rw [if_neg (by omega), if_neg (by omega)]
end Go.Proofs.Ytanmddenleffaaa
/- Plain numbers: the root, bit by bit (no program here). -/
namespace Go.Proofs.Ytanmddenleffaaa
/-- One round: the rest, and twice the root so far times a power of two. -/
def rootT (s : Nat × Nat) (k : Nat) : Nat × Nat := if s.1 < s.2 + 4 ^ k then (s.1, s.2 / 2) else (s.1 - (s.2 + 4 ^ k), s.2 / 2 + 4 ^ k)
/-- Behind n of 64 rounds. -/
def rootS (A : Nat) : Nat → Nat × Nat | 0 => (A, 0) | n + 1 => rootT (rootS A n) (63 - n)
def rootV (A : Nat) : Nat := if (rootS A 64).2 < (rootS A 64).1 then (rootS A 64).2 + 1 else (rootS A 64).2
theorem rootT_inv (A m rest r R : Nat) (hr : r = R * 2 ^ (m + 1)) (he : rest + R * R = A) (hlt : A < (R + 2 ^ (m + 1)) * (R + 2 ^ (m + 1))) :
    ∃ R', (rootT (rest, r) m).2 = R' * 2 ^ m ∧ (rootT (rest, r) m).1 + R' * R' = A ∧ A < (R' + 2 ^ m) * (R' + 2 ^ m) := by
  have e4 : 4 ^ m = 2 ^ m * 2 ^ m := by rw [← Nat.mul_pow]
  unfold rootT
  rw [e4]
  rw [Nat.pow_succ] at hr hlt
  generalize 2 ^ m = q at *
  have h2 : r / 2 = R * q := by rw [hr, show R * (q * 2) = (R * q) * 2 from by rw [Nat.mul_assoc], Nat.mul_div_cancel _ (by decide)]
  rw [h2]
  have ex : (R + q) * (R + q) = R * R + 2 * (R * q) + q * q := by grind
  have hr' : r = 2 * (R * q) := by rw [hr]; grind
  by_cases h : rest < r + q * q
  · rw [if_pos h]
    refine ⟨R, rfl, he, ?_⟩
    rw [ex]; omega
  · rw [if_neg h]
    refine ⟨R + q, ?_, ?_, ?_⟩
    · rw [Nat.add_mul]
    · rw [ex]; omega
    · rw [show R + q + q = R + q * 2 from by omega]; exact hlt
theorem rootS_inv (A : Nat) (hA : A < 2 ^ 128) (n : Nat) (hn : n ≤ 64) :
    ∃ R, (rootS A n).2 = R * 2 ^ (64 - n) ∧ (rootS A n).1 + R * R = A ∧ A < (R + 2 ^ (64 - n)) * (R + 2 ^ (64 - n)) := by
  induction n with
  | zero => exact ⟨0, by simp [rootS], by simp [rootS], by rw [Nat.zero_add, ← Nat.pow_add]; exact hA⟩
  | succ n ih =>
    obtain ⟨R, h1, h2, h3⟩ := ih (by omega)
    have e : 64 - n = (63 - n) + 1 := by omega
    rw [e] at h1 h3
    have h := rootT_inv A (63 - n) _ _ R h1 h2 h3
    rw [show 64 - (n + 1) = 63 - n from by omega]
    exact h
theorem rootV_spec (A : Nat) (hA : A < 2 ^ 128) : (rootV A = 0 ∨ rootV A * rootV A < A + rootV A) ∧ A ≤ rootV A * rootV A + rootV A := by
  obtain ⟨R, h1, h2, h3⟩ := rootS_inv A hA 64 (by decide)
  simp only [show 64 - 64 = 0 from rfl, Nat.pow_zero, Nat.mul_one] at h1 h3
  unfold rootV
  rw [h1]
  have ex : (R + 1) * (R + 1) = R * R + 2 * R + 1 := by grind
  by_cases h : R < (rootS A 64).1
  · rw [if_pos h, ex]; omega
  · rw [if_neg h]; omega
/-- All numbers on the way have 128 bits. -/
theorem rootS_bd (A : Nat) (hA : A < 2 ^ 127) (n : Nat) (hn : n < 64) :
    (rootS A n).1 < 2 ^ 127 ∧ (rootS A n).2 + 4 ^ (63 - n) < 2 ^ 128 ∧ (rootS A n).2 < 2 ^ 128 := by
  obtain ⟨R, h1, h2, h3⟩ := rootS_inv A (Nat.lt_trans hA (by decide)) n (by omega)
  have e4 : 4 ^ (63 - n) = 2 ^ (63 - n) * 2 ^ (63 - n) := by rw [← Nat.mul_pow]
  have e2 : 2 ^ (64 - n) = 2 * 2 ^ (63 - n) := by rw [show 64 - n = (63 - n) + 1 from by omega, Nat.pow_succ]; omega
  have hq : 2 ^ (63 - n) ≤ 2 ^ 63 := Nat.pow_le_pow_right (by decide) (by omega)
  rw [e4, h1, e2]
  generalize 2 ^ (63 - n) = q at *
  have hR : R ≤ 13043817825332782212 := by
    rcases Nat.lt_or_ge 13043817825332782212 R with h | h
    · have h4 : 13043817825332782213 * 13043817825332782213 ≤ R * R := Nat.mul_le_mul h h
      have h5 : (2 : Nat) ^ 127 = 170141183460469231731687303715884105728 := by decide
      omega
    · exact h
  have h7 : R * (2 * q) ≤ 13043817825332782212 * (2 * 2 ^ 63) := Nat.mul_le_mul hR (by omega)
  have h8 : q * q ≤ 2 ^ 63 * 2 ^ 63 := Nat.mul_le_mul hq hq
  have h5 : (2 : Nat) ^ 127 = 170141183460469231731687303715884105728 := by decide
  have h9 : (2 : Nat) ^ 128 = 340282366920938463463374607431768211456 := by decide
  have h10 : (2 : Nat) ^ 63 * 2 ^ 63 = 85070591730234615865843651857942052864 := by decide
  have h12 : 13043817825332782212 * (2 * 2 ^ 63) = 240615969168004511538585310832300654592 := by decide
  omega
theorem rootS_end (A : Nat) (hA : A < 2 ^ 127) : (rootS A 64).1 < 2 ^ 127 ∧ (rootS A 64).2 < 2 ^ 64 := by
  obtain ⟨R, h1, h2, h3⟩ := rootS_inv A (Nat.lt_trans hA (by decide)) 64 (by decide)
  simp only [show 64 - 64 = 0 from rfl, Nat.pow_zero, Nat.mul_one] at h1 h3
  rw [h1]
  refine ⟨by omega, ?_⟩
  rcases Nat.lt_or_ge R (2 ^ 64) with h | h
  · exact h
  · have h4 : 2 ^ 64 * 2 ^ 64 ≤ R * R := Nat.mul_le_mul h h
    have h5 : (2 : Nat) ^ 127 = 170141183460469231731687303715884105728 := by decide
    have h6 : (2 : Nat) ^ 64 * 2 ^ 64 = 340282366920938463463374607431768211456 := by decide
    omega
end Go.Proofs.Ytanmddenleffaaa
/- Plain numbers: Hypot, Unit: what they come to, and that Unit's answer has the length One. No program. -/
namespace Go.Proofs.Ytanmddenleffaaa
/-- The root of the sum of the squares (of at most 64 numbers). -/
def hypV (A : Nat → Int) (n : Nat) : Int := satV (rootV (dotS A A n).toNat : Nat)
def hypH (A : Nat → Int) (n : Nat) : Bool := orB (fun i => satH (A i)) n || satH (rootV (dotS A A n).toNat : Nat)
def uniT (A : Nat → Int) : Nat → Int := fun i => divV (A i) (hypV A 4) 30
def uniTH (A : Nat → Int) : Bool := hypH A 4 || orB (fun i => divH (A i) (hypV A 4) 30) 4
def satA (A : Nat → Int) : Nat → Int := fun i => satV (A i)
def oneQ : Nat → Int := fun i => if i = 0 then 1073741824 else 0
def zer4 (A : Nat → Int) : Bool := decide (A 0 = 0) && decide (A 1 = 0) && decide (A 2 = 0) && decide (A 3 = 0)
def uniV (A : Nat → Int) : Nat → Int := if zer4 (satA A) = true then oneQ else uniT (uniT (satA A))
def uniH (A : Nat → Int) : Bool := orB (fun i => satH (A i)) 4 || (if zer4 (satA A) = true then false else uniTH (satA A) || uniTH (uniT (satA A)))
/-- Within a little of the length One. -/
def UnitQ (q : Nat → Int) : Prop := (∀ i, i < 4 → -1073741840 ≤ q i ∧ q i ≤ 1073741840) ∧
  -4294967296 ≤ q 0 * q 0 + q 1 * q 1 + q 2 * q 2 + q 3 * q 3 - 1152921504606846976 ∧ q 0 * q 0 + q 1 * q 1 + q 2 * q 2 + q 3 * q 3 - 1152921504606846976 ≤ 4294967296
theorem sq_nonneg (a : Int) : 0 ≤ a * a := by
  rcases Int.le_total 0 a with h | h
  · exact Int.mul_nonneg h h
  · exact Int.mul_nonneg_of_nonpos_of_nonpos h h
theorem int_lt_or_ge (a b : Int) : a < b ∨ b ≤ a := by omega
theorem abs_le_of_sq {a R : Int} (hR : 0 ≤ R) (h : a * a ≤ R * R + R) : -R ≤ a ∧ a ≤ R := by
  constructor
  · rcases int_lt_or_ge a (-R) with h1 | h1
    · have h2 : (R + 1) * (R + 1) ≤ (-a) * (-a) := Int.mul_le_mul (by omega) (by omega) (by omega) (by omega)
      have e1 : (R + 1) * (R + 1) = R * R + 2 * R + 1 := by grind
      have e2 : (-a) * (-a) = a * a := by grind
      omega
    · exact h1
  · rcases int_lt_or_ge R a with h1 | h1
    · have h2 : (R + 1) * (R + 1) ≤ a * a := Int.mul_le_mul (by omega) (by omega) (by omega) (by omega)
      have e1 : (R + 1) * (R + 1) = R * R + 2 * R + 1 := by grind
      omega
    · exact h1
/-- A division, rounded: within a half. -/
theorem rdivU_err (a n : Int) (hn : 0 < n) : -n ≤ 2 * (rdiv a n * n - a) ∧ 2 * (rdiv a n * n - a) ≤ n := by
  obtain ⟨d, rfl⟩ := Int.eq_ofNat_of_zero_le (Int.le_of_lt hn)
  have hd : 0 < d := by omega
  have hm := Nat.div_add_mod (2 * a.natAbs + d) (2 * d)
  have hr := Nat.mod_lt (2 * a.natAbs + d) (show 0 < 2 * d by omega)
  unfold rdiv
  simp only [Int.natAbs_natCast]
  generalize (2 * a.natAbs + d) % (2 * d) = r at *
  generalize (2 * a.natAbs + d) / (2 * d) = q at *
  have hm' : (2 * (d : Int)) * q + r = 2 * a.natAbs + d := by exact_mod_cast hm
  by_cases h0 : 0 ≤ a
  · rw [if_pos (by simp [h0, hd])]
    have e : (q : Int) * d = d * q := Int.mul_comm _ _
    rw [e]
    have : (a.natAbs : Int) = a := by omega
    rw [this, Int.mul_assoc] at hm'
    omega
  · rw [if_neg (by simp [h0, hd])]
    have e : -(q : Int) * d = -(d * q) := by grind
    rw [e]
    have : (a.natAbs : Int) = -a := by omega
    rw [this, Int.mul_assoc] at hm'
    omega
theorem rdivU_le {a n B : Int} (hn : 0 < n) (h1 : -(B * n) ≤ a) (h2 : a ≤ B * n) : -B ≤ rdiv a n ∧ rdiv a n ≤ B := by
  obtain ⟨e1, e2⟩ := rdivU_err a n hn
  generalize rdiv a n = q at *
  constructor
  · rcases int_lt_or_ge q (-B) with h | h
    · have : q * n ≤ (-B - 1) * n := Int.mul_le_mul_of_nonneg_right (by omega) (by omega)
      have e : (-B - 1) * n = -(B * n) - n := by grind
      omega
    · exact h
  · rcases int_lt_or_ge B q with h | h
    · have : (B + 1) * n ≤ q * n := Int.mul_le_mul_of_nonneg_right (by omega) (by omega)
      have e : (B + 1) * n = B * n + n := by grind
      omega
    · exact h
/-- Four numbers: their sizes' sum. -/
theorem sum4_le {a b c d R : Int} (hR : 0 ≤ R) (h : a * a + b * b + c * c + d * d ≤ R * R + R) : a + b + c + d ≤ 2 * R := by
  have h1 := sq_nonneg (a - b)
  have h2 := sq_nonneg (a - c)
  have h3 := sq_nonneg (a - d)
  have h4 := sq_nonneg (b - c)
  have h5 := sq_nonneg (b - d)
  have h6 := sq_nonneg (c - d)
  have e : (a + b + c + d) * (a + b + c + d) + ((a - b) * (a - b) + (a - c) * (a - c) + (a - d) * (a - d) + (b - c) * (b - c) + (b - d) * (b - d) + (c - d) * (c - d)) = 4 * (a * a + b * b + c * c + d * d) := by grind
  rcases int_lt_or_ge (2 * R) (a + b + c + d) with h7 | h7
  · have h8 : (2 * R + 1) * (2 * R + 1) ≤ (a + b + c + d) * (a + b + c + d) := Int.mul_le_mul (by omega) (by omega) (by omega) (by omega)
    have e2 : (2 * R + 1) * (2 * R + 1) = 4 * (R * R) + 4 * R + 1 := by grind
    omega
  · exact h7
theorem bound_mul {e q n : Int} (h1 : -n ≤ 2 * e) (h2 : 2 * e ≤ n) : -(n * (q.natAbs : Int)) ≤ 2 * (q * e) ∧ 2 * (q * e) ≤ n * (q.natAbs : Int) := by
  have hn : 0 ≤ n := by omega
  rcases Int.le_total 0 q with h | h
  · have : (q.natAbs : Int) = q := by omega
    rw [this]
    have k1 := Int.mul_le_mul_of_nonneg_left h2 h
    have k2 := Int.mul_le_mul_of_nonneg_left h1 h
    have e1 : q * (2 * e) = 2 * (q * e) := by grind
    have e2 : q * -n = -(n * q) := by grind
    have e3 : q * n = n * q := by grind
    omega
  · have : (q.natAbs : Int) = -q := by omega
    rw [this]
    have k1 := Int.mul_le_mul_of_nonneg_left h2 (show 0 ≤ -q by omega)
    have k2 := Int.mul_le_mul_of_nonneg_left h1 (show 0 ≤ -q by omega)
    have e1 : -q * (2 * e) = -(2 * (q * e)) := by grind
    have e2 : -q * -n = -(n * -q) := by grind
    have e3 : -q * n = n * -q := by grind
    omega
theorem sq_half {e n : Int} (h1 : -n ≤ 2 * e) (h2 : 2 * e ≤ n) : 4 * (e * e) ≤ n * n := by
  have k1 : 0 ≤ (n - 2 * e) * (n + 2 * e) := Int.mul_nonneg (by omega) (by omega)
  have e1 : (n - 2 * e) * (n + 2 * e) = n * n - 4 * (e * e) := by grind
  omega
/-- One turn of Unit's loop: what the squares come to. a: the numbers ahead, q: behind, n: the divisor, R: the root. -/
theorem uni_step {a0 a1 a2 a3 q0 q1 q2 q3 n R : Int} (hn : 0 < n) (hR : 0 ≤ R)
    (u0 : -n ≤ 2 * (q0 * n - a0 * 1073741824) ∧ 2 * (q0 * n - a0 * 1073741824) ≤ n) (u1 : -n ≤ 2 * (q1 * n - a1 * 1073741824) ∧ 2 * (q1 * n - a1 * 1073741824) ≤ n)
    (u2 : -n ≤ 2 * (q2 * n - a2 * 1073741824) ∧ 2 * (q2 * n - a2 * 1073741824) ≤ n) (u3 : -n ≤ 2 * (q3 * n - a3 * 1073741824) ∧ 2 * (q3 * n - a3 * 1073741824) ≤ n)
    (hS : a0 * a0 + a1 * a1 + a2 * a2 + a3 * a3 ≤ R * R + R) :
    -(2147483648 * (n * R)) ≤ (q0 * q0 + q1 * q1 + q2 * q2 + q3 * q3) * (n * n) - 1152921504606846976 * (a0 * a0 + a1 * a1 + a2 * a2 + a3 * a3) ∧
    (q0 * q0 + q1 * q1 + q2 * q2 + q3 * q3) * (n * n) - 1152921504606846976 * (a0 * a0 + a1 * a1 + a2 * a2 + a3 * a3) ≤ 2147483648 * (n * R) + n * n := by
  obtain ⟨e0, h0⟩ : ∃ e, q0 * n - a0 * 1073741824 = e := ⟨_, rfl⟩
  obtain ⟨e1, h1⟩ : ∃ e, q1 * n - a1 * 1073741824 = e := ⟨_, rfl⟩
  obtain ⟨e2, h2⟩ : ∃ e, q2 * n - a2 * 1073741824 = e := ⟨_, rfl⟩
  obtain ⟨e3, h3⟩ : ∃ e, q3 * n - a3 * 1073741824 = e := ⟨_, rfl⟩
  rw [h0] at u0
  rw [h1] at u1
  rw [h2] at u2
  rw [h3] at u3
  have b0 := bound_mul (q := a0) u0.1 u0.2
  have b1 := bound_mul (q := a1) u1.1 u1.2
  have b2 := bound_mul (q := a2) u2.1 u2.2
  have b3 := bound_mul (q := a3) u3.1 u3.2
  have s0 := sq_half u0.1 u0.2
  have s1 := sq_half u1.1 u1.2
  have s2 := sq_half u2.1 u2.2
  have s3 := sq_half u3.1 u3.2
  have t0 := sq_nonneg e0
  have t1 := sq_nonneg e1
  have t2 := sq_nonneg e2
  have t3 := sq_nonneg e3
  have hs : (a0.natAbs : Int) + a1.natAbs + a2.natAbs + a3.natAbs ≤ 2 * R := by
    apply sum4_le hR
    have f : ∀ x : Int, (x.natAbs : Int) * x.natAbs = x * x := fun x => by rw [← Int.natCast_mul, Int.natAbs_mul_self]
    rw [f, f, f, f]; exact hS
  have hm : n * ((a0.natAbs : Int) + a1.natAbs + a2.natAbs + a3.natAbs) ≤ n * (2 * R) := Int.mul_le_mul_of_nonneg_left hs (by omega)
  have hm1 : n * ((a0.natAbs : Int) + a1.natAbs + a2.natAbs + a3.natAbs) = n * a0.natAbs + n * a1.natAbs + n * a2.natAbs + n * a3.natAbs := by grind
  have hm2 : n * (2 * R) = 2 * (n * R) := by grind
  have g0 : q0 * n = a0 * 1073741824 + e0 := by omega
  have g1 : q1 * n = a1 * 1073741824 + e1 := by omega
  have g2 : q2 * n = a2 * 1073741824 + e2 := by omega
  have g3 : q3 * n = a3 * 1073741824 + e3 := by omega
  have ex : (q0 * q0 + q1 * q1 + q2 * q2 + q3 * q3) * (n * n) = (q0 * n) * (q0 * n) + (q1 * n) * (q1 * n) + (q2 * n) * (q2 * n) + (q3 * n) * (q3 * n) := by grind
  have eq : ∀ a e : Int, (a * 1073741824 + e) * (a * 1073741824 + e) = 1152921504606846976 * (a * a) + 2147483648 * (a * e) + e * e := fun a e => by grind
  rw [ex, g0, g1, g2, g3, eq, eq, eq, eq]
  rw [hm1, hm2] at hm
  omega
end Go.Proofs.Ytanmddenleffaaa
/- The product of quaternions, the matrix of one, as the program's numbers. No program. -/
namespace Go.Proofs.Ytanmddenleffaaa
def q4 (a b c d : Int) : Nat → Int := fun i => if i = 0 then a else if i = 1 then b else if i = 2 then c else d
/-- The numbers of the matrix: nine sums of products of the clamped quaternion. -/
def roA (q : Nat → Int) : Nat → Nat → Int
  | 0 => q | 4 => q | 8 => q
  | 1 => q4 (q 1) (q 1) (-q 0) (-q 0)
  | 2 => q4 (q 1) (q 1) (q 0) (q 0)
  | 3 => q4 (q 1) (q 1) (q 0) (q 0)
  | 5 => q4 (q 2) (q 2) (-q 0) (-q 0)
  | 6 => q4 (q 1) (q 1) (-q 0) (-q 0)
  | _ => q4 (q 2) (q 2) (q 0) (q 0)
def roB (q : Nat → Int) : Nat → Nat → Int
  | 0 => q4 (q 0) (q 1) (-q 2) (-q 3)
  | 4 => q4 (q 0) (-q 1) (q 2) (-q 3)
  | 8 => q4 (q 0) (-q 1) (-q 2) (q 3)
  | 1 => q4 (q 2) (q 2) (q 3) (q 3)
  | 2 => q4 (q 3) (q 3) (q 2) (q 2)
  | 3 => q4 (q 2) (q 2) (q 3) (q 3)
  | 5 => q4 (q 3) (q 3) (q 1) (q 1)
  | 6 => q4 (q 3) (q 3) (q 2) (q 2)
  | _ => q4 (q 3) (q 3) (q 1) (q 1)
def roN (q : Nat → Int) (k : Nat) : Int := dotV 30 (roA q k) (roB q k) 4
def roNH (q : Nat → Int) (k : Nat) : Bool := dotH 30 (roA q k) (roB q k) 4
def roV (Q : Nat → Int) : Nat → Int := fun k => roN (satA Q) k
def roH (Q : Nat → Int) : Bool := orB (fun i => satH (Q i)) 4 || orB (roNH (satA Q)) 9
end Go.Proofs.Ytanmddenleffaaa
