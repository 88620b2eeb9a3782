/- How the arguments of a law are opened: asks. -/
import Derived.Test.YtdeeclnjkjapcaaDoorArMG
namespace Go.Proofs.YtdeeclnjkjapcaaDoor
set_option linter.unusedVariables false
set_option linter.unusedSimpArgs false
open Go.RowKit Go.ChangeShapes Go.WideShapes
set_option maxRecDepth 100000 in
/-- An ask comes in. -/
theorem openAsk {H : Type} {enc : TypeId × Value → H} {W : World} {sp : Nat → Bool} {hd : Bool} {v : Value} {d : DataW H} {ps : List MemPlace} {r : Reach} {b0 : Nat} (hv : Value.okWide Tryd.prog W r b0 34 v) (h : DataW.Trod enc Tryd.prog W 0 sp hd 34 v d ps) (hw : ∀ n ∈ d.weights Tryd.prog 34, n ≤ reachBytes) :
    ∃ a : Ak, ∃ q c, v = .agg #[.int .i64 a.kind, .int .i64 a.id, .int .i64 a.k, .int .i64 a.seed, .slice q a.v.length c] ∧ InK .i64 a.id ∧ InK .i64 a.seed ∧ vecL.rd (World.mem W) [.slice q a.v.length c] a.v := by
  obtain ⟨cs, rfl, hsz⟩ := okWide_struct Tryd.underlying34 hv
  obtain ⟨l⟩ := cs
  have hl5 : l.length = 5 := hsz
  match l, hl5 with
  | [c0, c1, c2, c3, c4], _ =>
    obtain ⟨fuel, hf⟩ := h
    obtain ⟨xs, n, _, hx, hl, hlen, hfs⟩ := DataW.trod_struct Tryd.underlying34 hf
    obtain ⟨rfl, rfl⟩ := Prod.mk.inj hx
    match xs, hlen with
    | [y0, y1, y2, y3, y4], _ =>
      obtain ⟨x0, g0⟩ := Opens.int (k := .i64) Tryd.underlying3 H enc W sp hd n [c0] y0.1 y0.2 (hfs 0 _ rfl) (fun k hk => hw k (by simp [DataW.weights, Tryd.underlying34, DataW.weightsEach]; exact .inl hk))
      obtain ⟨x1, g1⟩ := Opens.int (k := .i64) Tryd.underlying2 H enc W sp hd n [c1] y1.1 y1.2 (hfs 1 _ rfl) (fun k hk => hw k (by simp [DataW.weights, Tryd.underlying34, DataW.weightsEach]; exact .inr (.inl hk)))
      obtain ⟨x2, g2⟩ := Opens.int (k := .i64) Tryd.underlying3 H enc W sp hd n [c2] y2.1 y2.2 (hfs 2 _ rfl) (fun k hk => hw k (by simp [DataW.weights, Tryd.underlying34, DataW.weightsEach]; exact .inr (.inr (.inl hk))))
      obtain ⟨x3, g3⟩ := Opens.int (k := .i64) Tryd.underlying2 H enc W sp hd n [c3] y3.1 y3.2 (hfs 3 _ rfl) (fun k hk => hw k (by simp [DataW.weights, Tryd.underlying34, DataW.weightsEach]; exact .inr (.inr (.inr (.inl hk)))))
      obtain ⟨x4, g4⟩ := opens_vec H enc W sp hd n [c4] y4.1 y4.2 (hfs 4 _ rfl) (fun k hk => hw k (by simp [DataW.weights, Tryd.underlying34, DataW.weightsEach]; exact .inr (.inr (.inr (.inr hk)))))
      obtain ⟨e0, i0⟩ := g0
      obtain ⟨e1, i1⟩ := g1
      obtain ⟨e2, i2⟩ := g2
      obtain ⟨e3, i3⟩ := g3
      cases e0
      cases e1
      cases e2
      cases e3
      obtain ⟨q, c, rfl, _⟩ := Lay.list_open g4
      exact ⟨⟨x0, x1, x2, x3, x4⟩, q, c, rfl, i1, i3, g4⟩
end Go.Proofs.YtdeeclnjkjapcaaDoor
