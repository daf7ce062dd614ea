/- The walk of StrapBias. -/
import Derived.Test.YtnnjcdbliaecgaaS01
import Derived.Test.YtnnjcdbliaecgaaUpr4
namespace Go.Proofs.Ytnnjcdbliaecgaa
open Go.RowKit
set_option maxRecDepth 100000
def cutK (F : Nat → Int) (k : Nat) : Nat → Int := fun j => if j < k then F j else 0
theorem cutK_at (F : Nat → Int) (k : Nat) : cutK F k k = 0 ∧ cutK F (k + 1) k = F k := by unfold cutK; rw [if_neg (by omega), if_pos (by omega)]; exact ⟨rfl, rfl⟩
theorem cutK_ne (F : Nat → Int) {k j : Nat} (h : j ≠ k) : cutK F (k + 1) j = cutK F k j := by
  unfold cutK
  by_cases h2 : j < k
  · rw [if_pos h2, if_pos (by omega)]
  · rw [if_neg h2, if_neg (by omega)]
theorem bw_S (G A : Nat → Int) {k : Nat} (hk : k < 3) : ∀ i, i < 24 → upd (upd (biS (cutK G k) (cutK A k)) (10 + k) (G k)) (13 + k) (A k) i = biS (cutK G (k + 1)) (cutK A (k + 1)) i := fun i hi => by
  unfold upd
  by_cases h1 : i = 13 + k
  · subst h1
    rw [if_pos rfl]
    unfold biS
    rw [if_neg (by omega), if_neg (by omega), if_neg (by omega), if_pos (by omega), show 13 + k - 13 = k by omega, (cutK_at A k).2]
  · rw [if_neg h1]
    by_cases h2 : i = 10 + k
    · subst h2
      rw [if_pos rfl]
      unfold biS
      rw [if_neg (by omega), if_neg (by omega), if_pos (by omega), show 10 + k - 10 = k by omega, (cutK_at G k).2]
    · rw [if_neg h2]
      unfold biS
      by_cases c1 : i < 4
      · rw [if_pos c1, if_pos c1]
      · rw [if_neg c1, if_neg c1]
        by_cases c2 : i < 10
        · rw [if_pos c2, if_pos c2]
        · rw [if_neg c2, if_neg c2]
          by_cases c3 : i < 13
          · rw [if_pos c3, if_pos c3, cutK_ne G (by omega)]
          · rw [if_neg c3, if_neg c3]
            by_cases c4 : i < 16
            · rw [if_pos c4, if_pos c4, cutK_ne A (by omega)]
            · rw [if_neg c4, if_neg c4]
theorem biI_5 (G A : Nat → Int) (us : Int) {k : Nat} (hk : k < 3) : biI G A us (5 + k) = (if 5 + k = 7 then -(mulV 10529810258 (secV us) 30) else 0) + mulV (A k) (secV us) 30 := by
  unfold biI
  rw [if_neg (by omega), if_neg (by omega), if_neg (by omega), if_pos (by omega), show 5 + k - 5 = k by omega]
theorem bw_I (G A : Nat → Int) (us : Int) {k : Nat} (hk : k < 3) : ∀ i, i < 8 → upd (upd (biI (cutK G k) (cutK A k) us) (2 + k) (mulV (G k) (secV us) 30)) (5 + k) (biI (cutK G k) (cutK A k) us (5 + k) + mulV (A k) (secV us) 30) i = biI (cutK G (k + 1)) (cutK A (k + 1)) us i := fun i hi => by
  unfold upd
  by_cases h1 : i = 5 + k
  · subst h1
    rw [if_pos rfl]
    rw [biI_5 _ _ _ hk, biI_5 _ _ _ hk, (cutK_at A k).1, (cutK_at A k).2, ml_zero]
    omega
  · rw [if_neg h1]
    by_cases h2 : i = 2 + k
    · subst h2
      rw [if_pos rfl]
      unfold biI
      rw [if_neg (by omega), if_neg (by omega), if_pos (by omega), show 2 + k - 2 = k by omega, (cutK_at G k).2]
    · rw [if_neg h2]
      unfold biI
      by_cases c0 : i = 1
      · rw [if_pos c0, if_pos c0]
      · rw [if_neg c0, if_neg c0]
        by_cases c1 : i < 2
        · rw [if_pos c1, if_pos c1]
        · rw [if_neg c1, if_neg c1]
          by_cases c2 : i < 5
          · rw [if_pos c2, if_pos c2, cutK_ne G (by omega)]
          · rw [if_neg c2, if_neg c2]
            by_cases c3 : i < 8
            · rw [if_pos c3, if_pos c3, cutK_ne A (by omega)]
            · rw [if_neg c3, if_neg c3]
theorem bw_S0 (G A : Nat → Int) : ∀ i, i < 24 → oneS i = biS (cutK G 0) (cutK A 0) i := fun i hi => by
  unfold biS cutK oneS
  by_cases c1 : i < 4
  · rw [if_pos c1]
  · rw [if_neg (by omega), if_neg c1]
    repeat' split
    all_goals first | rfl | omega
theorem bw_I0 (G A : Nat → Int) (us : Int) : ∀ i, i < 8 → stlF us i = biI (cutK G 0) (cutK A 0) us i := fun i hi => by
  by_cases c2 : 5 ≤ i
  · obtain ⟨k, rfl⟩ : ∃ k, i = 5 + k := ⟨i - 5, by omega⟩
    rw [biI_5 _ _ _ (by omega), show cutK A 0 k = 0 from if_neg (by omega), ml_zero, Int.add_zero]
    unfold stlF
    rw [if_neg (by omega)]
  · unfold biI stlF
    by_cases c0 : i = 1
    · rw [if_pos c0, if_pos c0]
    · rw [if_neg c0, if_neg c0, if_neg (by omega)]
      by_cases c1 : i < 2
      · rw [if_pos c1]
      · rw [if_neg c1, if_pos (by omega), show cutK G 0 (i - 2) = 0 from if_neg (by omega), ml_zero]
/-- The law's blocks. -/
structure BwR (bc sb ib : Nat) (X Y S I : Nat → Int) (w wr : World) : Prop where
  below : Below w.heap.size w wr
  fl : Flg wr bc false
  g : Blk wr w.heap.size 29 3 X
  a : Blk wr (w.heap.size + 1) 29 3 Y
  s : Blk wr sb 27 24 S
  i : Blk wr ib 31 8 I
  lt : w.heap.size + 1 < bc ∧ bc < sb ∧ sb < ib
section
variable {bc sb ib : Nat} {X Y S I S' I' : Nat → Int} {w wr w' : World}
theorem BwR.down (s : BwR bc sb ib X Y S I w wr) (k : Below wr.heap.size wr w') : BwR bc sb ib X Y S I w w' := ⟨s.below.trans (k.mono s.below.size), s.fl.below k, s.g.below k, s.a.below k, s.s.below k, s.i.below k, s.lt⟩
theorem BwR.upd' (s : BwR bc sb ib X Y S I w wr) (u : Upd ⟨bc, 0, none⟩ false wr w') : BwR bc sb ib X Y S I w w' := by
  have := s.lt
  exact ⟨below_of_upd s.below u (by simp only; omega), s.fl.hit u, s.g.upd u (by simp only; omega), s.a.upd u (by simp only; omega), s.s.upd u (by simp only; omega), s.i.upd u (by simp only; omega), s.lt⟩
theorem BwR.setS (s : BwR bc sb ib X Y S I w wr) (j : Nat) (v : Int) : BwR bc sb ib X Y (Go.Proofs.Ytnnjcdbliaecgaa.upd S j v) I w (wr.setCell ⟨sb, j, none⟩ (.int .i64 v)) := by
  have := s.lt
  exact ⟨s.below.setCell (by simp only; omega) _, s.fl.other (by simp only; omega) _, s.g.other (by simp only; omega) _, s.a.other (by simp only; omega) _, s.s.set _ _, s.i.other (by simp only; omega) _, s.lt⟩
theorem BwR.setI (s : BwR bc sb ib X Y S I w wr) (j : Nat) (v : Int) : BwR bc sb ib X Y S (Go.Proofs.Ytnnjcdbliaecgaa.upd I j v) w (wr.setCell ⟨ib, j, none⟩ (.int .i64 v)) := by
  have := s.lt
  exact ⟨s.below.setCell (by simp only; omega) _, s.fl.other (by simp only; omega) _, s.g.other (by simp only; omega) _, s.a.other (by simp only; omega) _, s.s.other (by simp only; omega) _, s.i.set _ _, s.lt⟩
theorem BwR.congr (s : BwR bc sb ib X Y S I w wr) (e : ∀ i, i < 24 → S i = S' i) (f : ∀ i, i < 8 → I i = I' i) : BwR bc sb ib X Y S' I' w wr := ⟨s.below, s.fl, s.g, s.a, s.s.congr e, s.i.congr f, s.lt⟩
end
end Go.Proofs.Ytnnjcdbliaecgaa
