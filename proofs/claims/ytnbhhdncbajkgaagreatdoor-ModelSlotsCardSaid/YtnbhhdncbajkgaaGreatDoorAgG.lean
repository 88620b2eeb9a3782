/- How the arguments of a law are opened: by layouts. -/
import Derived.Test.YtnbhhdncbajkgaaGreatDoorG1
import Derived.WalkKit
import Derived.ProofKit
import Derived.OpenShut
import Derived.SizedLaws
import Derived.Deep.Slices
import Derived.DataReads
import Derived.ChangeSame
import Derived.Lib.SmallJoins
namespace Go.Proofs.YtnbhhdncbajkgaaGreatDoor
set_option linter.unusedVariables false
set_option linter.unusedSimpArgs false
open Go.RowKit Go.ChangeShapes Go.WideShapes
/-- What comes in at the type t is read by L. -/
def Opens {α : Type} (P : Program) (L : Lay α) (t : TypeId) : Prop := ∀ (H : Type) (enc : TypeId × Value → H) (W : World) (sp : Nat → Bool) (hd : Bool) (fuel : Nat) (cs : List Value) (d : DataW H) (ps : List MemPlace),
  DataW.trod enc P W 0 sp hd fuel t cs = some (d, ps) → (∀ n ∈ d.weights P t, n ≤ reachBytes) → ∃ x, L.rd (World.mem W) cs x
theorem wf_inK {k : IntKind} {n : Int} (h : (Lit.int k n).wf = true) : InK k n := by
  simp [Lit.wf] at h
  exact h
theorem Opens.int {P : Program} {t : TypeId} {k : IntKind} (ht : P.underlying t = some (.int k)) : Opens P (Lay.int k) t := by
  intro H enc W sp hd fuel cs d ps h _
  cases fuel with
  | zero => cases h
  | succ fuel =>
    unfold DataW.trod at h
    rw [ht] at h
    match cs, h with
    | [.int k' n], h =>
      simp only at h
      split at h
      · rename_i hk
        obtain ⟨rfl, hw⟩ := hk
        exact ⟨n, rfl, wf_inK hw⟩
      · cases h
theorem Opens.bool {P : Program} {t : TypeId} (ht : P.underlying t = some .bool) : Opens P Lay.bool t := by
  intro H enc W sp hd fuel cs d ps h _
  cases fuel with
  | zero => cases h
  | succ fuel =>
    unfold DataW.trod at h
    rw [ht] at h
    match cs, h with
    | [.bool b], h => exact ⟨b, rfl⟩
theorem weightsAll_mem {H : Type} {P : Program} {e : TypeId} : ∀ {l : List (DataW H)} {d : DataW H}, d ∈ l → ∀ n ∈ d.weights P e, n ∈ DataW.weightsAll P e l
  | x :: l, d, h, n, hn => by
    simp only [DataW.weightsAll, List.mem_append]
    rcases List.mem_cons.1 h with rfl | h
    · exact .inl hn
    · exact .inr (weightsAll_mem h n hn)
theorem Opens.list {α : Type} {P : Program} {L : Lay α} {t e : TypeId} (ht : P.underlying t = some (.slice e)) (he : Opens P L e) (hc : P.cellsOf e = L.n) (hb : P.bytesOf e = L.bytes) (h0 : 0 < L.n) : Opens P L.list t := by
  intro H enc W sp hd fuel cs d ps h hw
  rcases Go.Deep.open_slice ht h with ⟨rfl, _⟩ | ⟨a, len, cap, m, n, D, Pl, rfl, _, hl, hm, hmm, hx, hel⟩
  · exact ⟨[], Lay.nil_rd _ _⟩
  · obtain ⟨rfl, rfl⟩ := Prod.mk.inj hx
    have hlm : len ≤ m := by rw [hmm]; split <;> omega
    have hwt : (len + (m - len)) * P.bytesOf e ≤ reachBytes := by
      refine hw _ ?_
      simp [DataW.weights, ht]
    have hex : ∀ i : Fin len, ∃ x, ∃ cs', L.rd (World.mem W) cs' x ∧ ∀ j v, cs'[j]? = some v → W.cell? ((a.add (i.1 * L.n)).add j) = some v := by
      intro i
      obtain ⟨cs', h1, h2⟩ := hel i.1 (by have := i.2; omega)
      obtain ⟨x, hx⟩ := he H enc W sp hd n cs' (D i.1) (Pl i.1) h2 (fun k hk => hw k (by
        simp only [DataW.weights, ht, List.mem_cons, List.mem_append]
        exact .inr (.inl (weightsAll_mem (List.mem_map.2 ⟨i.1, by simp, rfl⟩) k hk))))
      obtain ⟨_, hlen, hcell⟩ := World.cells?_some h1
      refine ⟨x, cs', hx, fun j v hj => ?_⟩
      have hjl := (List.getElem?_eq_some_iff.1 hj).1
      have := hcell j (by omega)
      rw [hj, hc] at this
      exact this
    obtain ⟨f, hf⟩ := Classical.axiomOfChoice hex
    have hlen : (List.ofFn f).length = len := by simp
    refine ⟨List.ofFn f, some a, cap, by rw [hlen], by rw [hlen]; exact hl, hm, ?_, ?_⟩
    · rw [hlen, ← hb]
      have : len * P.bytesOf e ≤ (len + (m - len)) * P.bytesOf e := Nat.mul_le_mul_right _ (by omega)
      simp only [reachBytes] at hwt
      omega
    · intro hpos
      obtain ⟨cs0, hr0, hc0⟩ := hf ⟨0, by omega⟩
      obtain ⟨b, o, sp'⟩ := a
      obtain rfl : sp' = none := by
        have hl0 := L.len hr0
        simpa [Addr.add] using World.cell?_spot (hc0 0 cs0[0] (List.getElem?_eq_getElem (by omega)))
      refine ⟨b, o, rfl, fun i x hx => ?_⟩
      have hi : i < len := by have := (List.getElem?_eq_some_iff.1 hx).1; omega
      obtain ⟨cs', h1, h2⟩ := hf ⟨i, hi⟩
      have e1 : x = f ⟨i, hi⟩ := by
        have := (List.getElem?_eq_some_iff.1 hx).2
        rw [← this]; simp
      rw [e1]
      refine ⟨cs', h1, fun j v hj => ?_⟩
      have := h2 j v hj
      rw [Addr.add_lit, Addr.add_lit] at this
      exact this
theorem weights_of {H : Type} {P : Program} {ts : List TypeId} {ds : List (DataW H)} {j : Nat} {t : TypeId} {d : DataW H} (hsz : (DataW.weightsEach P ts ds).all (· ≤ reachBytes) = true) (ht : ts[j]? = some t) (hd : ds[j]? = some d) : ∀ n ∈ d.weights P t, n ≤ reachBytes :=
  fun n hn => by simpa using List.all_eq_true.1 hsz n (DataW.weights_mem_each ht hd n hn)
end Go.Proofs.YtnbhhdncbajkgaaGreatDoor
