/- ModelApart: what it says of lists alone. -/
import Derived.Test.YtdeeclnjkjapcaaDoorG4
namespace Go.Proofs.YtdeeclnjkjapcaaDoor
set_option linter.unusedVariables false
set_option linter.unusedSimpArgs false
open Go.RowKit Go.Shelf
theorem get_do {m : Md} {a : Ak} (h : okM m) (hk : 1 ≤ a.kind) (z : Int) : getM (doL m a) z = if z = a.id ∧ (doR m a).e = 0 ∧ a.kind ≤ 3 then (if a.kind = 3 then none else some a.v) else getM m.l z := by
  have hs := h.2.2.2.1
  by_cases he : (doR m a).e = 0
  · by_cases h1 : a.kind = 1 ∨ a.kind = 2
    · rw [doL_put h1 he, get_put hs]
      by_cases e : z = a.id
      · rw [if_pos e, if_pos ⟨e, he, by omega⟩, if_neg (by omega)]
      · rw [if_neg e, if_neg fun k => e k.1]
    · by_cases h3 : a.kind = 3
      · rw [doL_del h3 he, get_del hs]
        by_cases e : z = a.id
        · rw [if_pos e, if_pos ⟨e, he, by omega⟩, if_pos h3]
        · rw [if_neg e, if_neg fun k => e k.1]
      · rw [doL_read (by omega), if_neg (by rintro ⟨_, _, k⟩; omega)]
  · rw [doL_same he, if_neg fun k => he k.2.1]
theorem do_len {m : Md} {a : Ak} (h : okM m) : (doL m a).length ≤ m.l.length + 1 := by
  unfold doL
  split
  · rw [put_len h.2.2.2.1]; split <;> omega
  · split
    · rw [del_len]; split <;> omega
    · omega
theorem doR_e {m : Md} {a : Ak} (h1 : 1 ≤ a.kind) (h3 : a.kind ≤ 3) : (doR m a).e = if a.kind = 3 then (if (getM m.l a.id).isSome = false then 5 else 0) else if a.kind = 1 ∧ (getM m.l a.id).isSome = true then 6 else if (getM m.l a.id).isSome = false ∧ (m.l.length : Int) = m.cap then 7 else 0 := by
  by_cases e : a.kind = 3
  · rw [(doR_del e).1, if_pos e]
  · rw [(doR_put (by omega)).1, if_neg e]
/-- Of another id the same is told; where there is room, to who writes too. -/
theorem do_other {m : Md} {a b : Ak} (h : okM m) (ka : okA a m.dim m.cap) (hn : a.id ≠ b.id) (b1 : 1 ≤ b.kind) (b3 : b.kind ≤ 3) : getM (doL m a) b.id = getM m.l b.id ∧ ((m.l.length : Int) + 2 ≤ m.cap → (doR ⟨m.cap, m.dim, doL m a⟩ b).e = (doR m b).e) := by
  have hg : getM (doL m a) b.id = getM m.l b.id := by rw [get_do h ka.2.1.1, if_neg fun k => hn k.1.symm]
  refine ⟨hg, fun hr => ?_⟩
  rw [doR_e b1 b3, doR_e b1 b3]
  simp only [hg]
  have hl := do_len (a := a) h
  have e1 : (((doL m a).length : Int) = m.cap) = False := eq_false (by omega)
  have e2 : ((m.l.length : Int) = m.cap) = False := eq_false (by omega)
  simp only [e1, e2]
/-- What ModelApart says, where all is in order. -/
theorem mapart_law {m : Md} {a b : Ak} (h : okM m) (ka : okA a m.dim m.cap) (kb : okA b m.dim m.cap) (a3 : a.kind ≤ 3) (b3 : b.kind ≤ 3) (hn : a.id ≠ b.id) :
    (doE m (getA b.id) = 0 ∧ doE (doM m a) (getA b.id) = 0 ∧ doP (doM m a) (getA b.id) = doP m (getA b.id)) ∧ doE (doM m a) b = 0 ∧ doE (doM m b) a = 0 ∧
    ((m.l.length : Int) + 2 ≤ m.cap → (doP (doM m a) b).e = (doP m b).e ∧ (doP (doM m b) a).e = (doP m a).e ∧ doM (doM m a) b = doM (doM m b) a) := by
  have hsz : (1 ≤ m.dim ∧ m.dim ≤ 64) ∧ 1 ≤ m.cap ∧ m.cap ≤ 256 := ⟨h.2.1, h.1⟩
  have kg := (okA_rm hsz (okA_id kb (by omega))).2
  have oa := okM_do h ka
  have ob := okM_do h kb
  have a1 := ka.2.1.1
  have b1 := kb.2.1.1
  obtain ⟨ga, ra⟩ := do_other h ka hn b1 b3
  obtain ⟨gb, rb⟩ := do_other h kb (Ne.symm hn) a1 a3
  have d0 := doM_ok h ka
  have d1 := doM_ok h kb
  have dg := doM_ok h kg
  rw [d0.1, d1.1]
  have c1 := doM_ok oa kb
  have c2 := doM_ok ob ka
  have cg := doM_ok oa kg
  refine ⟨⟨dg.2.2, cg.2.2, ?_⟩, c1.2.2, c2.2.2, fun hr => ⟨?_, ?_, ?_⟩⟩
  · rw [cg.2.1, dg.2.1, doR_get rfl, doR_get rfl]
    show (match getM (doL m a) b.id with | none => _ | some v => _) = _
    rw [ga]; rfl
  · rw [c1.2.1, d1.2.1]; exact ra hr
  · rw [c2.2.1, d0.2.1]; exact rb hr
  · rw [c1.1, c2.1]
    have e : doL ⟨m.cap, m.dim, doL m a⟩ b = doL ⟨m.cap, m.dim, doL m b⟩ a := by
      refine ris_ext (okM_do oa kb).2.2.2.1 (okM_do ob ka).2.2.2.1 fun z => ?_
      rw [get_do oa b1, get_do ob a1, ra hr, rb hr]
      simp only []
      rw [get_do h a1, get_do h b1]
      by_cases e1 : z = a.id
      · have e2 : z ≠ b.id := fun e => hn (e1.symm.trans e)
        simp only [e1, hn, true_and, false_and, if_false]
      · simp only [e1, false_and, if_false]
    rw [e]
end Go.Proofs.YtdeeclnjkjapcaaDoor
