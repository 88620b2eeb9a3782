/- ScanTurned: what it says of lists alone. -/
import Derived.Test.YtlkdjmpkapeppaaTw2G
namespace Go.Proofs.Ytlkdjmpkapeppaa
set_option linter.unusedVariables false
set_option linter.unusedSimpArgs false
open Go.RowKit Go.Shelf
theorem sq_turn {x y x' y' : Int} {d : Nat} (hd : d < 4) : (x * uR d - y * uI d - (x' * uR d - y' * uI d)) * (x * uR d - y * uI d - (x' * uR d - y' * uI d)) + (x * uI d + y * uR d - (x' * uI d + y' * uR d)) * (x * uI d + y * uR d - (x' * uI d + y' * uR d)) = (x - x') * (x - x') + (y - y') * (y - y') := by
  have : d = 0 ∨ d = 1 ∨ d = 2 ∨ d = 3 := by omega
  rcases this with rfl | rfl | rfl | rfl <;> simp only [uR, uI]
  · rw [show x * 1 - y * 0 - (x' * 1 - y' * 0) = x - x' by omega, show x * 0 + y * 1 - (x' * 0 + y' * 1) = y - y' by omega]
  · rw [show x * 0 - y * 1 - (x' * 0 - y' * 1) = -(y - y') by omega, show x * 1 + y * 0 - (x' * 1 + y' * 0) = x - x' by omega, Int.neg_mul_neg, Int.add_comm]
  · rw [show x * -1 - y * 0 - (x' * -1 - y' * 0) = -(x - x') by omega, show x * 0 + y * -1 - (x' * 0 + y' * -1) = -(y - y') by omega, Int.neg_mul_neg, Int.neg_mul_neg]
  · rw [show x * 0 - y * -1 - (x' * 0 - y' * -1) = y - y' by omega, show x * -1 + y * 0 - (x' * -1 + y' * 0) = -(x - x') by omega, Int.neg_mul_neg, Int.add_comm]
/-- Two lists that differ from two others at two places only, where the squares come to the same. -/
theorem distN_two {a b a' b' : List Int} {i : Nat} (h : ∀ k, k ≠ i → k ≠ i + 1 → a'.getD k 0 = a.getD k 0 ∧ b'.getD k 0 = b.getD k 0)
    (hs : (a'.getD i 0 - b'.getD i 0) * (a'.getD i 0 - b'.getD i 0) + (a'.getD (i + 1) 0 - b'.getD (i + 1) 0) * (a'.getD (i + 1) 0 - b'.getD (i + 1) 0) = (a.getD i 0 - b.getD i 0) * (a.getD i 0 - b.getD i 0) + (a.getD (i + 1) 0 - b.getD (i + 1) 0) * (a.getD (i + 1) 0 - b.getD (i + 1) 0)) :
    ∀ n, n ≠ i + 1 → distN a' b' n = distN a b n := by
  have low : ∀ n, n ≤ i → distN a' b' n = distN a b n := fun n => by
    induction n with
    | zero => intro _; rfl
    | succ n ih =>
      intro hn
      unfold distN
      rw [ih (by omega), (h n (by omega) (by omega)).1, (h n (by omega) (by omega)).2]
  have two : distN a' b' (i + 2) = distN a b (i + 2) := by
    show distN a' b' i + _ + _ = distN a b i + _ + _
    rw [low i (Nat.le_refl _), Int.add_assoc, hs, ← Int.add_assoc]
  intro n hn
  rcases Nat.lt_or_ge n (i + 2) with hlt | hge
  · exact low n (by omega)
  · induction n with
    | zero => omega
    | succ n ih =>
      by_cases e : n + 1 = i + 2
      · rw [e]; exact two
      · unfold distN
        rw [ih (by omega) (by omega), (h n (by omega) (by omega)).1, (h n (by omega) (by omega)).2]
theorem turnP_dist {way : Int} {a b : List Int} (hl : a.length = b.length) : ∀ k, distN (turnP way a k) (turnP way b k) a.length = distN a b a.length
  | 0 => rfl
  | k + 1 => by
    rw [← turnP_dist hl k]
    by_cases hk : 2 * k + 1 < a.length
    · rw [show turnP way a (k + 1) = _ from if_pos hk, show turnP way b (k + 1) = _ from if_pos (by omega)]
      have la := turnP_len way a k
      have lb := turnP_len way b k
      refine distN_two (i := 2 * k) (fun j h1 h2 => ?_) ?_ a.length (by omega)
      · rw [getD_set_n, if_neg (by omega), getD_set_n, if_neg (by omega), getD_set_n, if_neg (by omega), getD_set_n, if_neg (by omega)]
        exact ⟨rfl, rfl⟩
      · rw [getD_set_n, if_neg (by omega), getD_set_n, if_pos ⟨rfl, by omega⟩, getD_set_n, if_neg (by omega), getD_set_n, if_pos ⟨rfl, by omega⟩, getD_set_n, if_pos ⟨rfl, by rw [List.length_set]; omega⟩, getD_set_n, if_pos ⟨rfl, by rw [List.length_set]; omega⟩,
          turnP_rest way a k (2 * k) (by omega), turnP_rest way b k (2 * k) (by omega), turnP_rest way a k (2 * k + 1) (by omega), turnP_rest way b k (2 * k + 1) (by omega)]
        exact sq_turn (dgT_lt way k)
    · rw [show turnP way a (k + 1) = _ from if_neg hk, show turnP way b (k + 1) = _ from if_neg (by omega)]
theorem turnV_fine {way : Int} {v : List Int} (hf : fineV v) (hi : In16 v) : fineV (turnV way v) ∧ (turnV way v).length = v.length := by
  have hl := turnP_len way v 31
  exact ⟨⟨by unfold turnV; rw [hl]; exact hf.1, by unfold turnV; rw [hl]; exact hf.2.1, fun x hx => (turnP_fine hf hi 31 x hx).1⟩, hl⟩
theorem turn_dN {way : Int} {a b : List Int} (ha : fineV a) (hb : fineV b) (ia : In16 a) (ib : In16 b) (hl : a.length = b.length) : dN (turnV way a) (turnV way b) = dN a b := by
  have fa := turnV_fine (way := way) ha ia
  have fb := turnV_fine (way := way) hb ib
  unfold dN
  rw [if_pos ⟨fa.1, fb.1, by rw [fa.2, fb.2]; exact hl⟩, if_pos ⟨ha, hb, hl⟩]
  unfold distV
  rw [fa.2]
  exact turnP_dist hl 31
/-- Slots whose first vectors are turned. -/
def trV (way : Int) (s : Sl) : Nat → List (List Int)
  | 0 => s.vecs
  | k + 1 => if s.ids.getD k 0 = -1 then trV way s k else (trV way s k).set k (turnV way (s.vecs.getD k []))
theorem trV_len (way : Int) (s : Sl) : ∀ k, (trV way s k).length = s.vecs.length
  | 0 => rfl
  | k + 1 => by
    unfold trV
    split
    · exact trV_len way s k
    · rw [List.length_set]; exact trV_len way s k
theorem trV_at (way : Int) (s : Sl) {j : Nat} (hj : j < s.vecs.length) : ∀ k, (trV way s k).getD j [] = if j < k ∧ s.ids.getD j 0 ≠ -1 then turnV way (s.vecs.getD j []) else s.vecs.getD j []
  | 0 => by rw [if_neg (by omega)]; rfl
  | k + 1 => by
    unfold trV
    by_cases hx : s.ids.getD k 0 = -1
    · rw [if_pos hx, trV_at way s hj k]
      by_cases e : j = k
      · subst e; rw [if_neg (by omega), if_neg (fun h => h.2 hx)]
      · by_cases h : j < k ∧ s.ids.getD j 0 ≠ -1
        · rw [if_pos h, if_pos ⟨by omega, h.2⟩]
        · rw [if_neg h, if_neg fun h2 => h ⟨by omega, h2.2⟩]
    · rw [if_neg hx]
      by_cases hk : k < s.vecs.length
      · rw [getD_set_v _ (by rw [trV_len]; exact hk)]
        by_cases e : j = k
        · subst e; rw [if_pos rfl, if_pos ⟨by omega, hx⟩]
        · rw [if_neg e, trV_at way s hj k]
          by_cases h : j < k ∧ s.ids.getD j 0 ≠ -1
          · rw [if_pos h, if_pos ⟨by omega, h.2⟩]
          · rw [if_neg h, if_neg fun h2 => h ⟨by omega, h2.2⟩]
      · have : (trV way s k).set k (turnV way (s.vecs.getD k [])) = trV way s k := by
          apply List.set_eq_of_length_le
          rw [trV_len]; omega
        rw [this, trV_at way s hj k]
        by_cases h : j < k ∧ s.ids.getD j 0 ≠ -1
        · rw [if_pos h, if_pos ⟨by omega, h.2⟩]
        · rw [if_neg h, if_neg fun h2 => h ⟨by omega, h2.2⟩]
def trS (way : Int) (s : Sl) : Sl := ⟨s.dim, s.ids, trV way s s.ids.length⟩
/-- What ScanTurned says. -/
theorem turned_law {way : Int} {s : Sl} {q : List Int} {K : Int} (h : mayP s q K) (hi : ∀ k, In16 (s.vecs.getD k [])) (hq : In16 q) : mayP (trS way s) (turnV way q) K ∧ bruteR (trS way s) (turnV way q) K = bruteR s q K := by
  have hn := h.1.2.2.1
  have at_ : ∀ j, j < s.ids.length → (trV way s s.ids.length).getD j [] = if s.ids.getD j 0 ≠ -1 then turnV way (s.vecs.getD j []) else s.vecs.getD j [] := fun j hj => by
    rw [trV_at way s (by omega) s.ids.length]
    by_cases hx : s.ids.getD j 0 ≠ -1
    · rw [if_pos ⟨hj, hx⟩, if_pos hx]
    · rw [if_neg fun h => hx h.2, if_neg hx]
  have fq := turnV_fine (way := way) h.2.1 hq
  have hm : mayP (trS way s) (turnV way q) K := by
    refine ⟨⟨h.1.1, h.1.2.1, by show (trV way s s.ids.length).length = s.ids.length; rw [trV_len]; exact hn, fun j hj => ?_⟩, fq.1, by rw [fq.2]; exact h.2.2.1, h.2.2.2⟩
    have hj' : j < s.ids.length := hj
    rcases h.1.2.2.2 j hj' with ⟨h1, h2⟩ | ⟨h1, h2, h3, h4⟩
    · refine .inl ⟨h1, ?_⟩
      show (trV way s s.ids.length).getD j [] = []
      rw [at_ j hj', if_neg (fun k => k h1)]; exact h2
    · refine .inr ⟨h1, h2, ?_, h4⟩
      show fitsV s.dim ((trV way s s.ids.length).getD j [])
      have hx : s.ids.getD j 0 ≠ -1 := by omega
      rw [at_ j hj', if_pos hx]
      have := turnV_fine (way := way) h3.1 (hi j)
      exact ⟨this.1, by rw [this.2]; exact h3.2⟩
  refine ⟨hm, ?_⟩
  have hh : ∀ k, k ≤ s.ids.length → hitsOf (trS way s) (turnV way q) k = hitsOf s q k := fun k => by
    induction k with
    | zero => intro _; rfl
    | succ k ih =>
      intro hk
      have hkl : k < s.ids.length := by omega
      by_cases hx : s.ids.getD k 0 = -1
      · rw [show hitsOf (trS way s) (turnV way q) (k + 1) = hitsOf (trS way s) (turnV way q) k from if_pos hx, show hitsOf s q (k + 1) = hitsOf s q k from if_pos hx, ih (by omega)]
      · rw [show hitsOf (trS way s) (turnV way q) (k + 1) = hitsOf (trS way s) (turnV way q) k ++ [⟨dN ((trV way s s.ids.length).getD k []) (turnV way q), s.ids.getD k 0⟩] from if_neg hx,
          show hitsOf s q (k + 1) = hitsOf s q k ++ [⟨dN (s.vecs.getD k []) q, s.ids.getD k 0⟩] from if_neg hx, ih (by omega), at_ k hkl, if_pos hx]
        rcases h.1.2.2.2 k hkl with ⟨h1, _⟩ | ⟨_, _, h3, _⟩
        · exact absurd h1 hx
        · rw [turn_dN h3.1 h.2.1 (hi k) hq (by have := h3.2; have := h.2.2.1; omega)]
  unfold bruteR
  rw [if_pos h, if_pos hm]
  show near K.toNat (hitsOf (trS way s) (turnV way q) s.ids.length) = _
  rw [hh s.ids.length (Nat.le_refl _)]
end Go.Proofs.Ytlkdjmpkapeppaa
