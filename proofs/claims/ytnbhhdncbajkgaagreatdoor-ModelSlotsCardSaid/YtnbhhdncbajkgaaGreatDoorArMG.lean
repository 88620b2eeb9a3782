/- How the arguments of a law are opened: vectors, models; what the laid table gives. -/
import Derived.Test.YtnbhhdncbajkgaaGreatDoorAgG
import Derived.Test.YtnbhhdncbajkgaaGreatDoorG4
import Derived.Test.YtnbhhdncbajkgaaGreatDoorRows
import Derived.LaidMore
import Derived.MakeChecks
namespace Go.Proofs.YtnbhhdncbajkgaaGreatDoor
set_option linter.unusedVariables false
set_option linter.unusedSimpArgs false
open Go.RowKit Go.ChangeShapes Go.WideShapes
theorem opens_vec : Opens Tryz.prog vecL 26 := Opens.list (L := Lay.int .i16) Tryz.underlying26 (Opens.int Tryz.underlying51) (by kernel_rfl) (by kernel_rfl) (by decide)
set_option maxRecDepth 100000 in
/-- A vector comes in. -/
theorem openVec {H : Type} {enc : TypeId × Value → H} {W : World} {sp : Nat → Bool} {hd : Bool} {v : Value} {d : DataW H} {ps : List MemPlace} {r : Reach} {b0 : Nat} (hv : Value.okWide Tryz.prog W r b0 26 v) (h : DataW.Trod enc Tryz.prog W 0 sp hd 26 v d ps) (hw : ∀ n ∈ d.weights Tryz.prog 26, n ≤ reachBytes) : ∃ x, vecL.rd (World.mem W) [v] x := by
  obtain ⟨a, len, cap, rfl⟩ := Go.WideShapes.okWide_slice Tryz.underlying26 hv
  obtain ⟨fuel, hf⟩ := h
  exact opens_vec H enc W sp hd fuel _ d ps (by simpa [Value.cells] using hf) hw
set_option maxRecDepth 100000 in
theorem opens_item : Opens Tryz.prog itL 50 := by
  intro H enc W sp hd fuel cs d ps h hw
  obtain ⟨y0, y1, n, hx, hl, h0, h1⟩ := trod_struct2 Tryz.underlying50 h
  obtain ⟨rfl, rfl⟩ := Prod.mk.inj hx
  have hl2 : cs.length = 2 := hl
  match cs, hl2 with
  | [c0, c1], _ =>
    obtain ⟨x0, g0⟩ := Opens.int (k := .i64) Tryz.underlying2 H enc W sp hd n [c0] y0.1 y0.2 h0 (fun k hk => hw k (by simp [DataW.weights, Tryz.underlying50, DataW.weightsEach]; exact .inl hk))
    obtain ⟨x1, g1⟩ := opens_vec H enc W sp hd n [c1] y1.1 y1.2 h1 (fun k hk => hw k (by simp [DataW.weights, Tryz.underlying50, DataW.weightsEach]; exact .inr hk))
    exact ⟨⟨x0, x1⟩, [c0], [c1], rfl, g0, g1⟩
set_option maxRecDepth 100000 in
/-- A model comes in. -/
theorem openModel {H : Type} {enc : TypeId × Value → H} {W : World} {sp : Nat → Bool} {hd : Bool} {v : Value} {d : DataW H} {ps : List MemPlace} {r : Reach} {b0 : Nat} (hv : Value.okWide Tryz.prog W r b0 24 v) (h : DataW.Trod enc Tryz.prog W 0 sp hd 24 v d ps) (hw : ∀ n ∈ d.weights Tryz.prog 24, n ≤ reachBytes) :
    ∃ M : Md, ∃ q c, v = .agg #[.int .i64 M.cap, .int .i64 M.dim, .slice q M.l.length c] ∧ itL.list.rd (World.mem W) [.slice q M.l.length c] M.l := by
  obtain ⟨v0, v1, v2, y0, y1, y2, n, rfl, rfl, rfl, h0, h1, h2⟩ := Go.Joins.open_agg3 Tryz.underlying24 (by kernel_rfl) (by kernel_rfl) hv h
  obtain ⟨x0, g0⟩ := Opens.int (k := .i64) Tryz.underlying3 H enc W sp hd n [v0] y0.1 y0.2 h0 (fun k hk => hw k (by simp [DataW.weights, Tryz.underlying24, DataW.weightsEach]; exact .inl hk))
  obtain ⟨x1, g1⟩ := Opens.int (k := .i64) Tryz.underlying3 H enc W sp hd n [v1] y1.1 y1.2 h1 (fun k hk => hw k (by simp [DataW.weights, Tryz.underlying24, DataW.weightsEach]; exact .inr (.inl hk)))
  obtain ⟨x2, g2⟩ := Opens.list (L := itL) Tryz.underlying22 opens_item (by kernel_rfl) (by kernel_rfl) (by decide) H enc W sp hd n [v2] y2.1 y2.2 h2 (fun k hk => hw k (by simp [DataW.weights, Tryz.underlying24, DataW.weightsEach]; exact .inr (.inr hk)))
  obtain ⟨e0, k0⟩ := g0
  obtain ⟨e1, k1⟩ := g1
  cases e0
  cases e1
  obtain ⟨q, c, rfl, _⟩ := Lay.list_open g2
  exact ⟨⟨x0, x1, x2⟩, q, c, rfl, g2⟩
theorem gShapes : Tryz.prog.globalNamed "cuvette/ask.shapes" = some 0 := by kernel_rfl
theorem tShapes : (Tryz.prog.globals[0]?).map (·.type) = some 103 := by kernel_rfl
set_option maxRecDepth 100000 in
/-- What the condition gives the walks: the table of the kinds lies at block 0. -/
theorem shAt_of_laid {W : World} (h : laidMetH Tryz.prog [("cuvette/ask.shapes", Rows.laid_cuvette_ask_shapes)] W) : ShAt (World.mem W) := by
  rw [MakeChecks.laidMetH_plain _ _ _ (by kernel_rfl)] at h
  obtain ⟨ps, ⟨g0, t0, cs0, f0, p0, q0, hg0, ht0, hv0, hd0, _, _⟩, _, _⟩ := h
  obtain rfl := Option.some.inj (gShapes.symm.trans hg0)
  obtain rfl := Option.some.inj (tShapes.symm.trans ht0)
  obtain ⟨xs, m1, rfl, hx1, hlen, hn, hel⟩ := DataW.trod_array Tryz.underlying103 hd0
  have hx2 := (Prod.mk.inj hx1).1
  have c71 : Tryz.prog.cellsOf 102 = 4 := by kernel_rfl
  have c3 : Tryz.prog.cellsOf 2 = 1 := by kernel_rfl
  have c4 : Tryz.prog.cellsOf 4 = 1 := by kernel_rfl
  have hD : ∀ k, k < 9 → (xs.map (·.1))[k]? = some (.agg [.lit (.int .i64 (shI k)), .lit (.int .i64 (shK k)), .lit (.int .i64 (shS k)), .lit (.bool (shV k))]) := by
    have e : xs.map (·.1) = _ := (DataW.agg.inj (show DataW.agg _ = DataW.agg (xs.map (·.1)) from hx2)).symm
    intro k hk
    rw [e]
    match k, hk with
    | 0, _ => rfl
    | 1, _ => rfl
    | 2, _ => rfl
    | 3, _ => rfl
    | 4, _ => rfl
    | 5, _ => rfl
    | 6, _ => rfl
    | 7, _ => rfl
    | 8, _ => rfl
  intro k hk j v hv
  have hE := hel k hk
  have hk2 := hD k hk
  rw [List.getElem?_map] at hk2
  cases hy : xs[k]? with
  | none => rw [hy] at hk2; cases hk2
  | some y =>
    rw [hy] at hE hk2
    obtain ⟨y0, y1, y2, y3, n, hx, hl, h0, h1, h2, h3⟩ := Go.Joins.trod_struct4 Tryz.underlying102 hE
    rw [hx] at hk2
    simp only [Option.map_some, Option.some.injEq, DataW.agg.injEq, List.cons.injEq, and_true] at hk2
    replace hl := hl.trans c71
    have hc : ∀ i, ((cs0.toList.drop (k * Tryz.prog.cellsOf 102)).take (Tryz.prog.cellsOf 102))[i]? = some v → i < 4 → cs0[k * 4 + i]? = some v := by
      intro i hi h4
      rw [c71, List.getElem?_take, if_pos h4, List.getElem?_drop] at hi
      simpa using hi
    generalize hC : (cs0.toList.drop (k * Tryz.prog.cellsOf 102)).take (Tryz.prog.cellsOf 102) = C at *
    match C, hl with
    | [a0, a1, a2, a3], _ =>
      obtain ⟨n0, e0, z0, _⟩ := DataW.trod_int Tryz.underlying3 (show DataW.trod _ Tryz.prog W 0 _ _ n 3 [a0] = some y0 from h0)
      obtain ⟨n1, e1, z1, _⟩ := DataW.trod_int Tryz.underlying3 (show DataW.trod _ Tryz.prog W 0 _ _ n 3 [a1] = some y1 from h1)
      obtain ⟨n2, e2, z2, _⟩ := DataW.trod_int Tryz.underlying3 (show DataW.trod _ Tryz.prog W 0 _ _ n 3 [a2] = some y2 from h2)
      obtain ⟨n3, e3, z3⟩ := DataW.trod_bool Tryz.underlying4 (show DataW.trod _ Tryz.prog W 0 _ _ n 4 [a3] = some y3 from h3)
      rw [z0, z1, z2, z3] at hk2
      simp at e0 e1 e2 e3 hk2
      obtain ⟨rfl, rfl, rfl, rfl⟩ := hk2
      subst e0 e1 e2 e3
      have hj : j < 4 := by
        have := (List.getElem?_eq_some_iff.1 hv).1
        simpa using this
      show W.cell? _ = _
      rw [World.var?_cell hg0 hv0]
      exact hc j hv hj
end Go.Proofs.YtnbhhdncbajkgaaGreatDoor
