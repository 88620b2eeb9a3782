/- How the arguments of a law are opened: vectors, slots, where the table of the kinds is laid. -/
import Derived.Test.YtnbhhdncbajkgaaGreatDoorArMG
import Derived.Test.YtnbhhdncbajkgaaGreatDoorSl1G
namespace Go.Proofs.YtnbhhdncbajkgaaGreatDoor
set_option linter.unusedVariables false
set_option linter.unusedSimpArgs false
open Go.RowKit Go.ChangeShapes Go.WideShapes
set_option maxRecDepth 100000 in
/-- Slots come in. -/
theorem openSlots {H : Type} {enc : TypeId × Value → H} {W : World} {sp : Nat → Bool} {hd : Bool} {v : Value} {d : DataW H} {ps : List MemPlace} {r : Reach} {b0 : Nat} (hv : Value.okWide Tryz.prog W r b0 32 v) (h : DataW.Trod enc Tryz.prog W 0 sp hd 32 v d ps) (hw : ∀ n ∈ d.weights Tryz.prog 32, n ≤ reachBytes) :
    ∃ s : Sl, ∃ q1 c1 q2 c2, v = .agg #[.int .i64 s.dim, .slice q1 s.ids.length c1, .slice q2 s.vecs.length c2] ∧ slL.rd (World.mem W) [.int .i64 s.dim, .slice q1 s.ids.length c1, .slice q2 s.vecs.length c2] s := by
  obtain ⟨v0, v1, v2, y0, y1, y2, n, rfl, rfl, rfl, h0, h1, h2⟩ := Go.Joins.open_agg3 Tryz.underlying32 (by kernel_rfl) (by kernel_rfl) hv h
  obtain ⟨x0, g0⟩ := Opens.int (k := .i64) Tryz.underlying3 H enc W sp hd n [v0] y0.1 y0.2 h0 (fun k hk => hw k (by simp [DataW.weights, Tryz.underlying32, DataW.weightsEach]; exact .inl hk))
  obtain ⟨x1, g1⟩ := Opens.list (L := i64L) Tryz.underlying29 (Opens.int Tryz.underlying2) (by kernel_rfl) (by kernel_rfl) (by decide) H enc W sp hd n [v1] y1.1 y1.2 h1 (fun k hk => hw k (by simp [DataW.weights, Tryz.underlying32, DataW.weightsEach]; exact .inr (.inl hk)))
  obtain ⟨x2, g2⟩ := Opens.list (L := vecL) Tryz.underlying30 opens_vec (by kernel_rfl) (by kernel_rfl) (by decide) H enc W sp hd n [v2] y2.1 y2.2 h2 (fun k hk => hw k (by simp [DataW.weights, Tryz.underlying32, DataW.weightsEach]; exact .inr (.inr hk)))
  obtain ⟨e0, k0⟩ := g0
  cases e0
  obtain ⟨p1, c1, rfl, _⟩ := Lay.list_open g1
  obtain ⟨p2, c2, rfl, _⟩ := Lay.list_open g2
  exact ⟨⟨x0, x1, x2⟩, p1, c1, p2, c2, rfl, slL_mk (s := ⟨x0, x1, x2⟩) k0 g1 g2⟩
end Go.Proofs.YtnbhhdncbajkgaaGreatDoor
