/- scan: find, as Brute asks for it. -/
import Derived.Test.YtnbhhdncbajkgaaGreatDoorSc2G
import Derived.Test.YtnbhhdncbajkgaaGreatDoorG3
namespace Go.Proofs.YtnbhhdncbajkgaaGreatDoor
set_option linter.unusedVariables false
set_option linter.unusedSimpArgs false
open Go.RowKit Go.Shelf
/-- The hits of the first slots. -/
noncomputable def hitsOf (s : Sl) (q : List Int) : Nat → List Hit
  | 0 => []
  | k + 1 => if s.ids.getD k 0 = -1 then hitsOf s q k else hitsOf s q k ++ [⟨dN (s.vecs.getD k []) q, s.ids.getD k 0⟩]
theorem hitsOf_mem {s : Sl} {q : List Int} {x : Hit} : ∀ {k : Nat}, x ∈ hitsOf s q k ↔ ∃ j, j < k ∧ s.ids.getD j 0 ≠ -1 ∧ x = ⟨dN (s.vecs.getD j []) q, s.ids.getD j 0⟩
  | 0 => by simp [hitsOf]
  | k + 1 => by
    unfold hitsOf
    split
    · rename_i h
      rw [hitsOf_mem]
      constructor
      · rintro ⟨j, h1, h2⟩; exact ⟨j, by omega, h2⟩
      · rintro ⟨j, h1, h2, h3⟩
        by_cases e : j = k
        · subst e; exact absurd h h2
        · exact ⟨j, by omega, h2, h3⟩
    · rename_i h
      rw [List.mem_append, hitsOf_mem]
      constructor
      · rintro (⟨j, h1, h2⟩ | h1)
        · exact ⟨j, by omega, h2⟩
        · exact ⟨k, by omega, h, by simpa using h1⟩
      · rintro ⟨j, h1, h2, h3⟩
        by_cases e : j = k
        · subst e; exact .inr (by simp [h3])
        · exact .inl ⟨j, by omega, h2, h3⟩
theorem hitsOf_len (s : Sl) (q : List Int) : ∀ k, (hitsOf s q k).length ≤ k
  | 0 => by simp [hitsOf]
  | k + 1 => by
    have := hitsOf_len s q k
    unfold hitsOf
    split
    · omega
    · simp; omega
theorem good_hit {s : Sl} {q : List Int} {K : Int} (h : mayP s q K) {k : Nat} (hk : k < s.ids.length) (hx : s.ids.getD k 0 ≠ -1) : dE (s.vecs.getD k []) q = 0 ∧ 0 ≤ s.ids.getD k 0 ∧ s.ids.getD k 0 ≤ 2147483647 ∧ ∀ j, j < k → s.ids.getD j 0 ≠ s.ids.getD k 0 := by
  rcases h.1.2.2.2 k hk with ⟨h1, _⟩ | ⟨h1, h2, h3, h4⟩
  · exact absurd h1 hx
  · exact ⟨if_pos ⟨h3.1, h.2.1, by have := h3.2; have := h.2.2.1; omega⟩, h1, h2, h4⟩
theorem hits_step {s : Sl} {q : List Int} {K : Int} {l : List Hit} (h : mayP s q K) (hD : ∀ k, 0 ≤ dN (s.vecs.getD k []) q) {k : Nat} (hk : k < s.ids.length) (hI : InvN l (hitsOf s q k) K) (hx : s.ids.getD k 0 ≠ -1) :
    addX l K ⟨dN (s.vecs.getD k []) q, s.ids.getD k 0⟩ = 0 ∧ InvN (addH l K ⟨dN (s.vecs.getD k []) q, s.ids.getD k 0⟩) (hitsOf s q (k + 1)) K := by
  obtain ⟨_, h1, h2, h3⟩ := good_hit h hk hx
  have e : hitsOf s q (k + 1) = hitsOf s q k ++ [⟨dN (s.vecs.getD k []) q, s.ids.getD k 0⟩] := if_neg hx
  rw [e]
  refine hI.step ?_ fun x hm => ?_
  · exact ⟨hD k, h1, h2⟩
  · obtain ⟨j, hj, _, rfl⟩ := hitsOf_mem.1 hm
    exact h3 j hj
end Go.Proofs.YtnbhhdncbajkgaaGreatDoor
