/- ScanNearest: what it says of lists alone. -/
import Derived.Test.YtnbhhdncbajkgaaGreatDoorSc7G
namespace Go.Proofs.YtnbhhdncbajkgaaGreatDoor
set_option linter.unusedVariables false
set_option linter.unusedSimpArgs false
open Go.RowKit Go.Shelf
theorem nodup_of_ids {l : List Hit} (h : (l.map Hit.id).Nodup) : l.Nodup := List.Pairwise.of_map Hit.id (fun a b hn e => hn (by rw [e])) h
noncomputable def hitAt (s : Sl) (q : List Int) (j : Nat) : Hit := ⟨dN (s.vecs.getD j []) q, s.ids.getD j 0⟩
theorem hitsOf_nodup {s : Sl} {q : List Int} {K : Int} (h : mayP s q K) : ∀ k, k ≤ s.ids.length → ((hitsOf s q k).map Hit.id).Nodup
  | 0, _ => by simp [hitsOf]
  | k + 1, hk => by
    have ih := hitsOf_nodup h k (by omega)
    unfold hitsOf
    split
    · exact ih
    · rename_i hx
      rw [List.map_append, List.nodup_append]
      refine ⟨ih, by simp, fun a ha b hb e => ?_⟩
      obtain ⟨x, hm, rfl⟩ := List.mem_map.1 ha
      simp at hb
      obtain ⟨j, hj, _, rfl⟩ := hitsOf_mem.1 hm
      exact (good_hit h (show k < s.ids.length by omega) hx).2.2.2 j hj (Eq.trans (show _ = b from e) (hb.trans (by simp [List.getD])))
/-- How many of the first slots are among R. -/
noncomputable def cntOf (s : Sl) (q : List Int) (R : List Hit) (k : Nat) : Nat := ((hitsOf s q k).filter fun x => decide (x.id ∈ R.map Hit.id)).length
theorem cnt_skip {s : Sl} {q : List Int} {R : List Hit} {k : Nat} (h : s.ids.getD k 0 = -1) : cntOf s q R (k + 1) = cntOf s q R k := by
  unfold cntOf
  rw [show hitsOf s q (k + 1) = hitsOf s q k from if_pos h]
theorem cnt_in {s : Sl} {q : List Int} {R : List Hit} {k : Nat} (h : s.ids.getD k 0 ≠ -1) (hi : s.ids.getD k 0 ∈ R.map Hit.id) : cntOf s q R (k + 1) = cntOf s q R k + 1 := by
  unfold cntOf
  rw [show hitsOf s q (k + 1) = hitsOf s q k ++ [⟨dN (s.vecs.getD k []) q, s.ids.getD k 0⟩] from if_neg h, List.filter_append, List.length_append]
  congr 1
  rw [List.filter_cons_of_pos (by simpa using hi)]
  rfl
theorem cnt_out {s : Sl} {q : List Int} {R : List Hit} {k : Nat} (h : s.ids.getD k 0 ≠ -1) (hi : s.ids.getD k 0 ∉ R.map Hit.id) : cntOf s q R (k + 1) = cntOf s q R k := by
  unfold cntOf
  rw [show hitsOf s q (k + 1) = hitsOf s q k ++ [⟨dN (s.vecs.getD k []) q, s.ids.getD k 0⟩] from if_neg h, List.filter_append, List.length_append]
  rw [List.filter_cons_of_neg (by simpa using hi)]
  rfl
/-- What the nearest ones of slots are. -/
theorem near_slots {s : Sl} {q : List Int} {K : Int} {R : List Hit} (h : mayP s q K) (hR : R = near K.toNat (hitsOf s q s.ids.length)) :
    (∀ i, i + 1 < R.length → (R.getD i hz).lt (R.getD (i + 1) hz)) ∧ (∀ x ∈ R, ∃ j, j < s.ids.length ∧ s.ids.getD j 0 ≠ -1 ∧ x = hitAt s q j) ∧
    (∀ j, j < s.ids.length → s.ids.getD j 0 ≠ -1 → s.ids.getD j 0 ∈ R.map Hit.id → hitAt s q j ∈ R) ∧
    (∀ j, j < s.ids.length → s.ids.getD j 0 ≠ -1 → s.ids.getD j 0 ∉ R.map Hit.id → R.length = K.toNat ∧ ∀ x ∈ R, ¬ (hitAt s q j).lt x) ∧
    cntOf s q R s.ids.length = R.length := by
  have hLn := hitsOf_nodup h s.ids.length (Nat.le_refl _)
  have hsub : ∀ x ∈ R, x ∈ hitsOf s q s.ids.length := fun x hx => near_sub (k := K.toNat) x (by rw [← hR]; exact hx)
  have hnd : (R.map Hit.id).Nodup := by
    have := ((srt_perm (hitsOf s q s.ids.length)).map Hit.id).nodup_iff.2 hLn
    rw [hR]
    unfold near
    rw [List.map_take]
    exact this.sublist (List.take_sublist _ _)
  have hst : R.Pairwise Hit.lt := asc_strict (by rw [hR]; exact near_asc _ _) hnd
  have hmem : ∀ j, j < s.ids.length → s.ids.getD j 0 ≠ -1 → hitAt s q j ∈ hitsOf s q s.ids.length := fun j hj hx => hitsOf_mem.2 ⟨j, hj, hx, rfl⟩
  have hinj : ∀ x ∈ hitsOf s q s.ids.length, ∀ y ∈ hitsOf s q s.ids.length, x.id = y.id → x = y := by
    intro x hx y hy e
    obtain ⟨i, hi, rfl⟩ := List.getElem_of_mem hx
    obtain ⟨j, hj, rfl⟩ := List.getElem_of_mem hy
    have hij : i = j := by
      have := (List.getElem_inj (xs := (hitsOf s q s.ids.length).map Hit.id) (i := i) (j := j) (h₀ := by simpa using hi) (h₁ := by simpa using hj) hLn).1 (by simpa using e)
      exact this
    subst hij; rfl
  have hin : ∀ j, j < s.ids.length → s.ids.getD j 0 ≠ -1 → s.ids.getD j 0 ∈ R.map Hit.id → hitAt s q j ∈ R := fun j hj hx hm => by
    obtain ⟨x, hx1, hx2⟩ := List.mem_map.1 hm
    have := hinj x (hsub x hx1) _ (hmem j hj hx) hx2
    rwa [← this]
  refine ⟨fun i hi => ?_, fun x hx => ?_, hin, fun j hj hx hm => ?_, ?_⟩
  · have := List.pairwise_iff_getElem.1 hst i (i + 1) (by omega) hi (by omega)
    simpa [List.getD, hi, show i < R.length by omega] using this
  · obtain ⟨j, h1, h2, h3⟩ := hitsOf_mem.1 (hsub x hx)
    exact ⟨j, h1, h2, h3⟩
  · have hno : hitAt s q j ∉ near K.toNat (hitsOf s q s.ids.length) := fun hh => hm (List.mem_map.2 ⟨_, by rw [hR]; exact hh, rfl⟩)
    have := near_rest (hmem j hj hx) hno
    rw [hR]
    exact this
  · unfold cntOf
    refine List.Perm.length_eq ((List.perm_ext_iff_of_nodup ?_ ?_).2 fun x => ?_)
    · exact (nodup_of_ids hLn).filter _
    · exact nodup_of_ids hnd
    · rw [List.mem_filter]
      constructor
      · rintro ⟨h1, h2⟩
        obtain ⟨y, hy, e⟩ := List.mem_map.1 (of_decide_eq_true h2)
        rwa [hinj x h1 y (hsub y hy) e.symm]
      · intro hx
        exact ⟨hsub x hx, decide_eq_true (List.mem_map.2 ⟨x, hx, rfl⟩)⟩
end Go.Proofs.YtnbhhdncbajkgaaGreatDoor
