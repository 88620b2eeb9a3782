/- ScanApart: what it says of lists alone. -/
import Derived.Test.YtnbhhdncbajkgaaGreatDoorSn1G
namespace Go.Proofs.YtnbhhdncbajkgaaGreatDoor
set_option linter.unusedVariables false
set_option linter.unusedSimpArgs false
open Go.RowKit Go.Shelf
/-- Slots with one emptied. -/
def delS (s : Sl) (i : Nat) : Sl := ⟨s.dim, s.ids.set i (-1), s.vecs.set i []⟩
theorem srt_filter (p : Hit → Bool) (l : List Hit) : srt (l.filter p) = (srt l).filter p :=
  (srt_eq ((srt_asc l).sublist List.filter_sublist) ((srt_perm l).filter p)).symm
theorem getD_set_i {l : List Int} {i k : Nat} {x : Int} (hi : i < l.length) : (l.set i x).getD k 0 = if k = i then x else l.getD k 0 := by
  simp only [List.getD, List.getElem?_set]
  by_cases e : i = k
  · subst e; simp [hi]
  · simp [e, Ne.symm e]
theorem getD_set_v {l : List (List Int)} {i k : Nat} (x : List Int) (hi : i < l.length) : (l.set i x).getD k [] = if k = i then x else l.getD k [] := by
  simp only [List.getD, List.getElem?_set]
  by_cases e : i = k
  · subst e; simp [hi]
  · simp [e, Ne.symm e]
theorem good_apart {s : Sl} (h : dirOK s) {i j : Nat} (hi : i < s.ids.length) (hj : j < s.ids.length) (hx : s.ids.getD i 0 ≠ -1) (hn : j ≠ i) : s.ids.getD j 0 ≠ s.ids.getD i 0 := by
  intro e
  rcases Nat.lt_or_gt_of_ne hn with hlt | hgt
  · rcases h.2.2.2 i hi with h1 | h1
    · exact hx h1.1
    · exact h1.2.2.2 j hlt e
  · rcases h.2.2.2 j hj with h1 | h1
    · exact hx (by rw [← e]; exact h1.1)
    · exact h1.2.2.2 i hgt e.symm
theorem hits_del {s : Sl} {q : List Int} {i : Nat} (h : dirOK s) (hi : i < s.ids.length) (hx : s.ids.getD i 0 ≠ -1) : ∀ k, k ≤ s.ids.length → hitsOf (delS s i) q k = (hitsOf s q k).filter fun x => decide (x.id ≠ s.ids.getD i 0)
  | 0, _ => by simp [hitsOf]
  | k + 1, hk => by
    have ih := hits_del (q := q) h hi hx k (by omega)
    have g : (delS s i).ids.getD k 0 = if k = i then -1 else s.ids.getD k 0 := getD_set_i hi
    have gv : (delS s i).vecs.getD k [] = if k = i then [] else s.vecs.getD k [] := getD_set_v [] (by rw [h.2.2.1]; exact hi)
    by_cases e : k = i
    · rw [show hitsOf (delS s i) q (k + 1) = hitsOf (delS s i) q k from if_pos (by rw [g, if_pos e]), ih,
        show hitsOf s q (k + 1) = hitsOf s q k ++ [⟨dN (s.vecs.getD k []) q, s.ids.getD k 0⟩] from if_neg (by rw [e]; exact hx), List.filter_append, List.filter_cons_of_neg (by simp [e])]
      simp
    · rw [if_neg e] at g gv
      by_cases hs : s.ids.getD k 0 = -1
      · rw [show hitsOf (delS s i) q (k + 1) = hitsOf (delS s i) q k from if_pos (by rw [g, hs]), ih, show hitsOf s q (k + 1) = hitsOf s q k from if_pos hs]
      · have hne := good_apart h hi (show k < s.ids.length by omega) hx e
        rw [show hitsOf (delS s i) q (k + 1) = hitsOf (delS s i) q k ++ [⟨dN ((delS s i).vecs.getD k []) q, (delS s i).ids.getD k 0⟩] from if_neg (by rw [g]; exact hs), ih, g, gv,
          show hitsOf s q (k + 1) = hitsOf s q k ++ [⟨dN (s.vecs.getD k []) q, s.ids.getD k 0⟩] from if_neg hs, List.filter_append, List.filter_cons_of_pos (by simpa using hne)]
        simp
theorem dir_del {s : Sl} {i : Nat} (h : dirOK s) (hi : i < s.ids.length) : dirOK (delS s i) := by
  have g : ∀ k, (delS s i).ids.getD k 0 = if k = i then -1 else s.ids.getD k 0 := fun k => getD_set_i hi
  have gv : ∀ k, (delS s i).vecs.getD k [] = if k = i then [] else s.vecs.getD k [] := fun k => getD_set_v [] (by rw [h.2.2.1]; exact hi)
  have el : (delS s i).ids.length = s.ids.length := by simp [delS]
  have ev : (delS s i).vecs.length = s.vecs.length := by simp [delS]
  refine ⟨h.1, by rw [el]; exact h.2.1, by rw [el, ev]; exact h.2.2.1, fun j hj => ?_⟩
  rw [el] at hj
  unfold goodAt
  rw [g, gv]
  by_cases e : j = i
  · rw [if_pos e, if_pos e]; exact .inl ⟨rfl, rfl⟩
  · rw [if_neg e, if_neg e]
    rcases h.2.2.2 j hj with h1 | ⟨h1, h2, h3, h4⟩
    · exact .inl h1
    · refine .inr ⟨h1, h2, h3, fun j' hj' => ?_⟩
      rw [g]
      split
      · omega
      · exact h4 j' hj'
theorem may_del {s : Sl} {q : List Int} {K : Int} {i : Nat} (h : mayP s q K) (hi : i < s.ids.length) : mayP (delS s i) q K := by
  have e : (delS s i).ids.length = s.ids.length := by simp [delS]
  exact ⟨dir_del h.1 hi, h.2.1, h.2.2.1, h.2.2.2.1, by rw [e]; exact h.2.2.2.2⟩
theorem dirF_at (s : Sl) {z x : Int} : ∀ k, dirF s k z = some x → ∃ i, i < k ∧ x = (i : Int) ∧ s.ids.getD i 0 = z ∧ z ≠ -1
  | 0, h => by cases h
  | k + 1, h => by
    unfold dirF at h
    split at h
    · obtain ⟨i, h1, h2⟩ := dirF_at s k h
      exact ⟨i, by omega, h2⟩
    · rename_i hx
      change (if z = s.ids.getD k 0 then some (k : Int) else dirF s k z) = some x at h
      split at h
      · rename_i e
        cases h
        exact ⟨k, by omega, rfl, e.symm, by rw [e]; exact hx⟩
      · obtain ⟨i, h1, h2⟩ := dirF_at s k h
        exact ⟨i, by omega, h2⟩
theorem one_out {z : Int} : ∀ {l : List Hit}, (l.map Hit.id).Nodup → z ∈ l.map Hit.id → (l.filter fun x => decide (x.id ≠ z)).length + 1 = l.length
  | [], _, h => by simp at h
  | x :: l, hn, h => by
    rw [List.map_cons, List.nodup_cons] at hn
    by_cases e : x.id = z
    · rw [List.filter_cons_of_neg (by simp [e])]
      have : l.filter (fun x => decide (x.id ≠ z)) = l := List.filter_eq_self.2 fun y hy => by
        have : y.id ≠ z := fun e' => hn.1 (by rw [e, ← e']; exact List.mem_map_of_mem hy)
        simpa using this
      rw [this]; rfl
    · rw [List.filter_cons_of_pos (by simpa using e)]
      have hm : z ∈ l.map Hit.id := by
        rcases List.mem_cons.1 (show z ∈ x.id :: l.map Hit.id from h) with h' | h'
        · exact absurd h'.symm e
        · exact h'
      have := one_out hn.2 hm
      simp only [List.length_cons]
      omega
theorem none_out {z : Int} {l : List Hit} (h : z ∉ l.map Hit.id) : l.filter (fun x => decide (x.id ≠ z)) = l := List.filter_eq_self.2 fun y hy => by
  have : y.id ≠ z := fun e => h (by rw [← e]; exact List.mem_map_of_mem hy)
  simpa using this
/-- Without who is not among the first ones: the first ones are the same. -/
theorem take_other {z : Int} {k : Nat} {S : List Hit} (h : z ∉ (S.take k).map Hit.id) : (S.filter fun x => decide (x.id ≠ z)).take k = S.take k := by
  have e : S.filter (fun x => decide (x.id ≠ z)) = S.take k ++ (S.drop k).filter fun x => decide (x.id ≠ z) := by
    conv => lhs; rw [← List.take_append_drop k S]
    rw [List.filter_append, none_out h]
  rw [e]
  by_cases hk : k ≤ S.length
  · rw [List.take_append_of_le_length (by simp; omega), List.take_take, Nat.min_self]
  · rw [List.drop_of_length_le (by omega), List.filter_nil, List.append_nil, List.take_take, Nat.min_self]
/-- Without who is among the first ones: the next one takes its place. -/
theorem take_next {z : Int} {k : Nat} {S : List Hit} (hn : (S.map Hit.id).Nodup) (h : z ∈ (S.take k).map Hit.id) : (S.filter fun x => decide (x.id ≠ z)).take k = (S.take (k + 1)).filter fun x => decide (x.id ≠ z) := by
  have hn1 : ((S.take (k + 1)).map Hit.id).Nodup := hn.sublist ((List.take_sublist _ _).map _)
  have hm : z ∈ (S.take (k + 1)).map Hit.id := by
    obtain ⟨x, hx, e⟩ := List.mem_map.1 h
    refine List.mem_map.2 ⟨x, ?_, e⟩
    have : S.take k = (S.take (k + 1)).take k := by rw [List.take_take, Nat.min_eq_left (by omega)]
    rw [this] at hx
    exact List.mem_of_mem_take hx
  have hl := one_out hn1 hm
  have e : S.filter (fun x => decide (x.id ≠ z)) = (S.take (k + 1)).filter (fun x => decide (x.id ≠ z)) ++ (S.drop (k + 1)).filter fun x => decide (x.id ≠ z) := by
    conv => lhs; rw [← List.take_append_drop (k + 1) S]
    rw [List.filter_append]
  rw [e]
  rw [List.length_take] at hl
  by_cases hk : k + 1 ≤ S.length
  · rw [List.take_append_of_le_length (by omega), List.take_of_length_le (by omega)]
  · rw [List.drop_of_length_le (by omega), List.filter_nil, List.append_nil, List.take_of_length_le (by omega)]
/-- What ScanApart says. -/
theorem apart_law {s : Sl} {q : List Int} {K : Int} {i : Nat} (h : mayP s q K) (hi : i < s.ids.length) (hx : s.ids.getD i 0 ≠ -1) :
    (s.ids.getD i 0 ∉ (bruteR s q K).map Hit.id → bruteR (delS s i) q K = bruteR s q K) ∧
    (s.ids.getD i 0 ∈ (bruteR s q K).map Hit.id → ¬ mayP s q (K + 1) → (bruteR (delS s i) q K).length + 1 = (bruteR s q K).length) ∧
    (s.ids.getD i 0 ∈ (bruteR s q K).map Hit.id → mayP s q (K + 1) → bruteR (delS s i) q K = (bruteR s q (K + 1)).filter fun x => decide (x.id ≠ s.ids.getD i 0)) := by
  have el : (delS s i).ids.length = s.ids.length := by simp [delS]
  have e1 : bruteR s q K = (srt (hitsOf s q s.ids.length)).take K.toNat := if_pos h
  have e2 : bruteR (delS s i) q K = ((srt (hitsOf s q s.ids.length)).filter fun x => decide (x.id ≠ s.ids.getD i 0)).take K.toNat := by
    rw [← srt_filter, ← hits_del h.1 hi hx s.ids.length (Nat.le_refl _), ← el]
    exact if_pos (may_del h hi)
  have hnd : ((srt (hitsOf s q s.ids.length)).map Hit.id).Nodup := ((srt_perm _).map Hit.id).nodup_iff.2 (hitsOf_nodup h s.ids.length (Nat.le_refl _))
  have hlen := hitsOf_len s q s.ids.length
  have hsl := srt_length (hitsOf s q s.ids.length)
  have hK := h.2.2.2
  rw [e1, e2]
  refine ⟨fun hm => take_other hm, fun hm hno => ?_, fun hm hyes => ?_⟩
  · have hbig : ¬ (K + 1 ≤ s.ids.length) := fun hb => hno ⟨h.1, h.2.1, h.2.2.1, by omega, hb⟩
    have ht : (srt (hitsOf s q s.ids.length)).take K.toNat = srt (hitsOf s q s.ids.length) := List.take_of_length_le (by omega)
    rw [ht] at hm ⊢
    have := one_out hnd hm
    rw [List.take_of_length_le (by omega)]
    exact this
  · have e3 : bruteR s q (K + 1) = (srt (hitsOf s q s.ids.length)).take (K.toNat + 1) := by
      have : (K + 1).toNat = K.toNat + 1 := by omega
      rw [← this]; exact if_pos hyes
    rw [e3]
    exact take_next hnd hm
end Go.Proofs.YtnbhhdncbajkgaaGreatDoor
