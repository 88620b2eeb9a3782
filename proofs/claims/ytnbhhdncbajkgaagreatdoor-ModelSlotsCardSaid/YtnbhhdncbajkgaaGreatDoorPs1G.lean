/- Slots as a model: what is said of lists alone. -/
import Derived.Test.YtnbhhdncbajkgaaGreatDoorG4
import Derived.Test.YtnbhhdncbajkgaaGreatDoorSa1G
namespace Go.Proofs.YtnbhhdncbajkgaaGreatDoor
set_option linter.unusedVariables false
set_option linter.unusedSimpArgs false
open Go.RowKit Go.Shelf
/-- What is in the first slots, by rising ids. -/
def modL (s : Sl) : Nat → List It
  | 0 => []
  | k + 1 => if s.ids.getD k 0 = -1 then modL s k else putL (s.ids.getD k 0) (s.vecs.getD k []) (modL s k)
def mdOf (s : Sl) : Md := ⟨s.ids.length, s.dim, modL s s.ids.length⟩
theorem modL_ris (s : Sl) : ∀ k, Ris (modL s k)
  | 0 => List.Pairwise.nil
  | k + 1 => by
    unfold modL
    split
    · exact modL_ris s k
    · exact put_ris (modL_ris s k)
theorem modL_get (s : Sl) (z : Int) : ∀ k, getM (modL s k) z = (dirF s k z).map fun i => s.vecs.getD i.toNat []
  | 0 => rfl
  | k + 1 => by
    unfold modL dirF
    split
    · exact modL_get s z k
    · rw [get_put (modL_ris s k)]
      show _ = Option.map _ (if z = s.ids.getD k 0 then some (k : Int) else dirF s k z)
      split
      · simp
      · exact modL_get s z k
theorem put_perm {z : Int} {v : List Int} : ∀ {l : List It}, getM l z = none → (putL z v l).Perm (⟨z, v⟩ :: l)
  | [], _ => .refl _
  | x :: l, h => by
    unfold getM at h
    unfold putL
    split
    · split at h
      · cases h
      · exact ((put_perm h).cons x).trans (.swap _ _ _)
    · split
      · rename_i e; rw [if_pos e] at h; cases h
      · exact .refl _
theorem dirF_is {s : Sl} (h : dirOK s) {i : Nat} (hi : i < s.ids.length) (hz : s.ids.getD i 0 ≠ -1) : dirF s s.ids.length (s.ids.getD i 0) = some (i : Int) := by
  have h1 := (dirF_some s hz s.ids.length).2 ⟨i, hi, rfl⟩
  cases e : dirF s s.ids.length (s.ids.getD i 0) with
  | none => rw [e] at h1; cases h1
  | some x =>
    obtain ⟨j, hj, rfl, hid, _⟩ := dirF_at s _ e
    by_cases ej : j = i
    · rw [ej]
    · exact absurd hid (good_apart h hi hj hz ej)
theorem modL_fresh {s : Sl} (h : dirOK s) {k : Nat} (hk : k < s.ids.length) (hz : s.ids.getD k 0 ≠ -1) : getM (modL s k) (s.ids.getD k 0) = none := by
  rw [modL_get]
  cases e : dirF s k (s.ids.getD k 0) with
  | none => rfl
  | some x =>
    obtain ⟨j, hj, rfl, hid, _⟩ := dirF_at s _ e
    exact absurd hid (good_apart h hk (by omega) hz (by omega))
theorem modL_len {s : Sl} (h : dirOK s) : ∀ k, k ≤ s.ids.length → (modL s k).length ≤ k ∧ ((modL s k).length = k ↔ ∀ j, j < k → s.ids.getD j 0 ≠ -1)
  | 0, _ => ⟨Nat.le_refl _, by simp [modL]⟩
  | k + 1, hk => by
    obtain ⟨i1, i2⟩ := modL_len h k (by omega)
    unfold modL
    split
    · rename_i e
      exact ⟨by omega, ⟨fun hh => by omega, fun hh => absurd e (hh k (by omega))⟩⟩
    · rename_i e
      have hl := put_len (z := s.ids.getD k 0) (v := s.vecs.getD k []) (modL_ris s k)
      rw [modL_fresh h (by omega) e] at hl
      simp only [Option.isSome_none] at hl
      rw [if_neg (by decide)] at hl
      rw [hl]
      refine ⟨by omega, ⟨fun hh j hj => ?_, fun hh => ?_⟩⟩
      · by_cases ej : j = k
        · rw [ej]; exact e
        · exact i2.1 (by omega) j (by omega)
      · have := i2.2 fun j hj => hh j (by omega); omega
theorem modL_perm {s : Sl} (h : dirOK s) (q : List Int) : ∀ k, k ≤ s.ids.length → ((modL s k).map fun x => (⟨dN x.v q, x.id⟩ : Hit)).Perm (hitsOf s q k)
  | 0, _ => .refl _
  | k + 1, hk => by
    have ih := modL_perm h q k (by omega)
    unfold modL hitsOf
    split
    · exact ih
    · rename_i e
      refine ((put_perm (modL_fresh h (by omega) e)).map _).trans ?_
      simp only [List.map_cons]
      exact (ih.cons _).trans (List.perm_append_singleton _ _).symm
theorem modL_at {s : Sl} {z : Int} {v : List Int} (hg : getM (modL s s.ids.length) z = some v) : ∃ i, i < s.ids.length ∧ s.ids.getD i 0 = z ∧ z ≠ -1 ∧ s.vecs.getD i [] = v := by
  rw [modL_get] at hg
  cases e : dirF s s.ids.length z with
  | none => rw [e] at hg; cases hg
  | some x =>
    obtain ⟨j, hj, rfl, hid, hz⟩ := dirF_at s _ e
    rw [e] at hg
    exact ⟨j, hj, hid, hz, by simpa using hg⟩
theorem mdOf_ok {s : Sl} (h : dirOK s) : okM (mdOf s) := by
  refine ⟨⟨by have := h.2.1.1; show (1 : Int) ≤ (s.ids.length : Int); omega, by have := h.2.1.2; show (s.ids.length : Int) ≤ 256; omega⟩, h.1, by have := (modL_len h _ (Nat.le_refl _)).1; show ((modL s s.ids.length).length : Int) ≤ (s.ids.length : Int); omega, modL_ris s _, fun x hx => ?_⟩
  obtain ⟨i, hi, hid, hz, hv⟩ := modL_at (getM_of_mem (modL_ris s _) hx)
  rcases h.2.2.2 i hi with ⟨h1, _⟩ | ⟨h1, h2, h3, _⟩
  · exact absurd (hid.symm.trans h1) hz
  · rw [hid] at h1 h2
    rw [hv] at h3
    exact ⟨h1, h2, h3⟩
/-- Somebody is put into a slot that is his, or nobody's while he is in none. -/
def SlotFor (s : Sl) (i : Nat) (z : Int) : Prop := i < s.ids.length ∧ (s.ids.getD i 0 = z ∨ s.ids.getD i 0 = -1) ∧ ∀ j, j < s.ids.length → j ≠ i → s.ids.getD j 0 ≠ z
def withS' (s : Sl) (i : Nat) (x : Int) (v : List Int) : Sl := ⟨s.dim, s.ids.set i x, s.vecs.set i v⟩
theorem slot_of {s : Sl} (h : dirOK s) {i : Nat} (hi : i < s.ids.length) {z : Int} (hz : 0 ≤ z) (hc : s.ids.getD i 0 = z ∨ (dirF s s.ids.length z = none ∧ s.ids.getD i 0 = -1)) : SlotFor s i z := by
  rcases hc with e | ⟨e1, e2⟩
  · exact ⟨hi, .inl e, fun j hj hn => by have := good_apart h hi hj (by omega) hn; rw [e] at this; exact this⟩
  · refine ⟨hi, .inr e2, fun j hj hn e => ?_⟩
    have := (dirF_some s (z := z) (by omega) s.ids.length).2 ⟨j, hj, e⟩
    rw [e1] at this; cases this
section
variable {s : Sl} {i : Nat} {z : Int} {v : List Int}
theorem with_ids (hs : SlotFor s i z) (j : Nat) : (withS' s i z v).ids.getD j 0 = if j = i then z else s.ids.getD j 0 := getD_set_i hs.1
theorem with_vecs (hd : dirOK s) (hs : SlotFor s i z) (j : Nat) : (withS' s i z v).vecs.getD j [] = if j = i then v else s.vecs.getD j [] := getD_set_v v (by rw [hd.2.2.1]; exact hs.1)
theorem with_len (s : Sl) (i : Nat) (z : Int) (v : List Int) : (withS' s i z v).ids.length = s.ids.length := List.length_set
theorem dir_with (hd : dirOK s) (hs : SlotFor s i z) (hz : 0 ≤ z ∧ z ≤ 2147483647) (hv : fitsV s.dim v) : dirOK (withS' s i z v) := by
  refine ⟨hd.1, by rw [with_len]; exact hd.2.1, by rw [with_len]; exact (List.length_set).trans hd.2.2.1, fun j hj => ?_⟩
  rw [with_len] at hj
  unfold goodAt
  rw [with_ids hs, with_vecs hd hs]
  by_cases e : j = i
  · rw [if_pos e, if_pos e]
    refine .inr ⟨hz.1, hz.2, hv, fun k hk => ?_⟩
    rw [with_ids hs, if_neg (by omega)]
    exact hs.2.2 k (by omega) (by omega)
  · rw [if_neg e, if_neg e]
    rcases hd.2.2.2 j hj with g | ⟨g1, g2, g3, g4⟩
    · exact .inl g
    · refine .inr ⟨g1, g2, g3, fun k hk => ?_⟩
      rw [with_ids hs]
      split
      · exact fun e' => hs.2.2 j hj e e'.symm
      · exact g4 k hk
theorem mod_with (hd : dirOK s) (hs : SlotFor s i z) (hz : 0 ≤ z ∧ z ≤ 2147483647) (hv : fitsV s.dim v) : mdOf (withS' s i z v) = ⟨s.ids.length, s.dim, putL z v (modL s s.ids.length)⟩ := by
  have hD := dir_with hd hs hz hv
  have hl := with_len s i z v
  have key : modL (withS' s i z v) (withS' s i z v).ids.length = putL z v (modL s s.ids.length) := by
    refine ris_ext (modL_ris _ _) (put_ris (modL_ris _ _)) fun y => ?_
    rw [get_put (modL_ris _ _), modL_get]
    have hii : (withS' s i z v).ids.getD i 0 = z := by rw [with_ids hs, if_pos rfl]
    by_cases e : y = z
    · rw [if_pos e, e]
      have := dirF_is hD (i := i) (by rw [hl]; exact hs.1) (by rw [hii]; omega)
      rw [hii] at this
      rw [this]
      simp only [Option.map_some, Int.toNat_natCast]
      rw [with_vecs hd hs, if_pos rfl]
    · rw [if_neg e, modL_get]
      by_cases e1 : y = -1
      · rw [e1, dirF_neg, dirF_neg]; rfl
      · cases ed : dirF s s.ids.length y with
        | some x =>
          obtain ⟨j, hj, rfl, hid, _⟩ := dirF_at s _ ed
          have hji : j ≠ i := by
            rintro rfl
            rcases hs.2.1 with h | h
            · exact e (hid.symm.trans h)
            · exact e1 (hid.symm.trans h)
          have hjj : (withS' s i z v).ids.getD j 0 = y := by rw [with_ids hs, if_neg hji]; exact hid
          have := dirF_is hD (i := j) (by rw [hl]; exact hj) (by rw [hjj]; exact e1)
          rw [hjj] at this
          rw [this]
          simp only [Option.map_some, Int.toNat_natCast]
          rw [with_vecs hd hs, if_neg hji]
        | none =>
          cases en : dirF (withS' s i z v) (withS' s i z v).ids.length y with
          | none => rfl
          | some x =>
            obtain ⟨j, hj, rfl, hid, _⟩ := dirF_at _ _ en
            rw [hl] at hj
            rw [with_ids hs] at hid
            split at hid
            · exact absurd hid.symm e
            · have := (dirF_some s e1 s.ids.length).2 ⟨j, hj, hid⟩
              rw [ed] at this; cases this
  unfold mdOf
  rw [key, hl]
  try rfl
theorem mod_del (hd : dirOK s) (hi : i < s.ids.length) (hx : s.ids.getD i 0 = z) (hz : z ≠ -1) : mdOf (delS s i) = ⟨s.ids.length, s.dim, delL z (modL s s.ids.length)⟩ := by
  have hD := dir_del hd hi
  have hl : (delS s i).ids.length = s.ids.length := List.length_set
  have hids : ∀ j, (delS s i).ids.getD j 0 = if j = i then -1 else s.ids.getD j 0 := fun j => getD_set_i hi
  have hvecs : ∀ j, (delS s i).vecs.getD j [] = if j = i then [] else s.vecs.getD j [] := fun j => getD_set_v [] (by rw [hd.2.2.1]; exact hi)
  have key : modL (delS s i) (delS s i).ids.length = delL z (modL s s.ids.length) := by
    refine ris_ext (modL_ris _ _) (del_ris (modL_ris _ _)) fun y => ?_
    rw [get_del (modL_ris _ _), modL_get]
    have hno : ∀ j, j < s.ids.length → j ≠ i → s.ids.getD j 0 ≠ z := fun j hj hn => by have := good_apart hd hi hj (by rw [hx]; exact hz) hn; rw [hx] at this; exact this
    by_cases e1 : y = -1
    · rw [e1, dirF_neg, if_neg (by omega), modL_get, dirF_neg]; rfl
    by_cases e : y = z
    · rw [if_pos e]
      cases en : dirF (delS s i) (delS s i).ids.length y with
      | none => rfl
      | some x =>
        obtain ⟨j, hj, rfl, hid, _⟩ := dirF_at _ _ en
        rw [hl] at hj
        rw [hids] at hid
        split at hid
        · exact absurd hid.symm e1
        · rename_i hji; exact absurd (hid.trans e) (hno j hj hji)
    · rw [if_neg e, modL_get]
      cases ed : dirF s s.ids.length y with
      | some x =>
        obtain ⟨j, hj, rfl, hid, _⟩ := dirF_at s _ ed
        have hji : j ≠ i := by rintro rfl; exact e (hid.symm.trans hx)
        have hjj : (delS s i).ids.getD j 0 = y := by rw [hids, if_neg hji]; exact hid
        have := dirF_is hD (i := j) (by rw [hl]; exact hj) (by rw [hjj]; exact e1)
        rw [hjj] at this
        rw [this]
        simp only [Option.map_some, Int.toNat_natCast]
        rw [hvecs, if_neg hji]
      | none =>
        cases en : dirF (delS s i) (delS s i).ids.length y with
        | none => rfl
        | some x =>
          obtain ⟨j, hj, rfl, hid, _⟩ := dirF_at _ _ en
          rw [hl] at hj
          rw [hids] at hid
          split at hid
          · exact absurd hid.symm e1
          · have := (dirF_some s e1 s.ids.length).2 ⟨j, hj, hid⟩
            rw [ed] at this; cases this
  unfold mdOf
  rw [key, hl]
  try rfl
end
/-- What slots.Put comes to. -/
def PutRel (s : Sl) (z : Int) (v : List Int) (T : Sl) (e : Int) : Prop :=
  (e = 1 ∧ ¬ (dirOK s ∧ (0 ≤ z ∧ z ≤ 2147483647) ∧ fitsV s.dim v)) ∨
  (e = 7 ∧ dirOK s ∧ dirF s s.ids.length z = none ∧ ∀ j, j < s.ids.length → s.ids.getD j 0 ≠ -1) ∨
  (e = 0 ∧ dirOK s ∧ ∃ i, i < s.ids.length ∧ (s.ids.getD i 0 = z ∨ (dirF s s.ids.length z = none ∧ s.ids.getD i 0 = -1)) ∧ T = withS' s i z v)
theorem slots_put {s T : Sl} {z e : Int} {v : List Int} (h : dirOK s) (hp : PutRel s z v T e) (hg : doE (mdOf s) (upA z v) = 0) : e = (doP (mdOf s) (upA z v)).e ∧ (e = 0 → dirOK T ∧ mdOf T = doM (mdOf s) (upA z v)) := by
  have hM := mdOf_ok h
  have ka : okA (upA z v) (mdOf s).dim (mdOf s).cap := by
    unfold doE at hg
    split at hg
    · rename_i hh; exact hh.2
    · cases hg
  have hz : 0 ≤ z ∧ z ≤ 2147483647 := okA_id ka (by simp [upA])
  have hv : fitsV s.dim v := okA_v ka (.inr (.inl rfl))
  obtain ⟨d1, d2, d3⟩ := doM_ok hM ka
  have hr := (doR_put (m := mdOf s) (a := upA z v) (.inr rfl)).1
  rw [if_neg (by rintro ⟨h, _⟩; cases h)] at hr
  have hget : (getM (mdOf s).l (upA z v).id).isSome = (dirF s s.ids.length z).isSome := by
    show (getM (modL s s.ids.length) z).isSome = _
    rw [modL_get]; cases dirF s s.ids.length z <;> rfl
  rw [d2]
  rcases hp with ⟨rfl, hn⟩ | ⟨rfl, _, hn, hf⟩ | ⟨rfl, _, i, hi, hc, rfl⟩
  · exact absurd ⟨h, hz, hv⟩ hn
  · refine ⟨?_, fun h0 => by cases h0⟩
    have hfl : ((mdOf s).l.length : Int) = (mdOf s).cap := by
      have := ((modL_len h _ (Nat.le_refl _)).2).2 hf
      show ((modL s s.ids.length).length : Int) = (s.ids.length : Int)
      omega
    rw [hr, if_pos ⟨by rw [hget, hn]; rfl, hfl⟩]
  · have h0 : (doR (mdOf s) (upA z v)).e = 0 := by
      rw [hr, if_neg]
      rintro ⟨g1, g2⟩
      rw [hget] at g1
      rcases hc with e | ⟨_, e⟩
      · have := (dirF_some s (z := z) (by omega) s.ids.length).2 ⟨i, hi, e⟩
        rw [g1] at this; cases this
      · have hlen : (modL s s.ids.length).length = s.ids.length := by
          have g2' : ((modL s s.ids.length).length : Int) = (s.ids.length : Int) := g2
          omega
        exact absurd e ((modL_len h _ (Nat.le_refl _)).2.1 hlen i hi)
    have hs := slot_of h hi hz.1 hc
    refine ⟨h0.symm, fun _ => ⟨dir_with h hs hz hv, ?_⟩⟩
    rw [d1, doL_put (.inr rfl) h0]
    exact mod_with h hs hz hv
theorem slots_find {s : Sl} {z : Int} (h : dirOK s) (hz : 0 ≤ z ∧ z ≤ 2147483647) : (dirF s s.ids.length z).isSome = (getM (mdOf s).l z).isSome := by
  show _ = (getM (modL s s.ids.length) z).isSome
  rw [modL_get]; cases dirF s s.ids.length z <;> rfl
theorem slots_near {s : Sl} {q : List Int} (h : dirOK s) (k : Nat) : near k (hitsOf s q s.ids.length) = near k ((mdOf s).l.map fun x => (⟨dN x.v q, x.id⟩ : Hit)) := near_congr (modL_perm h q _ (Nat.le_refl _)).symm
end Go.Proofs.YtnbhhdncbajkgaaGreatDoor
