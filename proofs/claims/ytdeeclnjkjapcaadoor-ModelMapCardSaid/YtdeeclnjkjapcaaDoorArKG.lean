/- How the arguments of a law are opened: lists of asks. -/
import Derived.Test.YtdeeclnjkjapcaaDoorArAG
import Derived.Test.YtdeeclnjkjapcaaDoorMd23G
namespace Go.Proofs.YtdeeclnjkjapcaaDoor
set_option linter.unusedVariables false
set_option linter.unusedSimpArgs false
open Go.RowKit Go.ChangeShapes Go.WideShapes
set_option maxRecDepth 100000 in
theorem opens_ask : Opens Tryd.prog akL 34 := by
  intro H enc W sp hd fuel cs d ps h hw
  obtain ⟨xs, n, _, hx, hl, hlen, hfs⟩ := DataW.trod_struct Tryd.underlying34 h
  obtain ⟨rfl, rfl⟩ := Prod.mk.inj hx
  have hl5 : cs.length = 5 := hl
  match cs, hl5 with
  | [c0, c1, c2, c3, c4], _ =>
    match xs, hlen with
    | [y0, y1, y2, y3, y4], _ =>
      obtain ⟨x0, g0⟩ := Opens.int (k := .i64) Tryd.underlying3 H enc W sp hd n [c0] y0.1 y0.2 (hfs 0 _ rfl) (fun k hk => hw k (by simp [DataW.weights, Tryd.underlying34, DataW.weightsEach]; exact .inl hk))
      obtain ⟨x1, g1⟩ := Opens.int (k := .i64) Tryd.underlying2 H enc W sp hd n [c1] y1.1 y1.2 (hfs 1 _ rfl) (fun k hk => hw k (by simp [DataW.weights, Tryd.underlying34, DataW.weightsEach]; exact .inr (.inl hk)))
      obtain ⟨x2, g2⟩ := Opens.int (k := .i64) Tryd.underlying3 H enc W sp hd n [c2] y2.1 y2.2 (hfs 2 _ rfl) (fun k hk => hw k (by simp [DataW.weights, Tryd.underlying34, DataW.weightsEach]; exact .inr (.inr (.inl hk))))
      obtain ⟨x3, g3⟩ := Opens.int (k := .i64) Tryd.underlying2 H enc W sp hd n [c3] y3.1 y3.2 (hfs 3 _ rfl) (fun k hk => hw k (by simp [DataW.weights, Tryd.underlying34, DataW.weightsEach]; exact .inr (.inr (.inr (.inl hk)))))
      obtain ⟨x4, g4⟩ := opens_vec H enc W sp hd n [c4] y4.1 y4.2 (hfs 4 _ rfl) (fun k hk => hw k (by simp [DataW.weights, Tryd.underlying34, DataW.weightsEach]; exact .inr (.inr (.inr (.inr hk)))))
      exact ⟨⟨x0, x1, x2, x3, x4⟩, [c0], [c1, c2, c3, c4], rfl, g0, [c1], [c2, c3, c4], rfl, g1, [c2], [c3, c4], rfl, g2, [c3], [c4], rfl, g3, g4⟩
set_option maxRecDepth 100000 in
/-- A list of asks comes in. -/
theorem openSlAsk {H : Type} {enc : TypeId × Value → H} {W : World} {sp : Nat → Bool} {hd : Bool} {v : Value} {d : DataW H} {ps : List MemPlace} {r : Reach} {b0 : Nat} (hv : Value.okWide Tryd.prog W r b0 22 v) (h : DataW.Trod enc Tryd.prog W 0 sp hd 22 v d ps) (hw : ∀ n ∈ d.weights Tryd.prog 22, n ≤ reachBytes) : ∃ x, akL.list.rd (World.mem W) [v] x := by
  obtain ⟨a, len, cap, rfl⟩ := Go.WideShapes.okWide_slice Tryd.underlying22 hv
  obtain ⟨fuel, hf⟩ := h
  exact Opens.list (L := akL) Tryd.underlying22 opens_ask (by kernel_rfl) (by kernel_rfl) (by decide) H enc W sp hd fuel _ d ps (by simpa [Value.cells] using hf) hw
end Go.Proofs.YtdeeclnjkjapcaaDoor
