/- append onto a row of the call's own, of whatever is read as numbers. -/
import Derived.Test.YtnbhhdncbajkgaaGreatDoorB
import Derived.Deep.RegionLaw
namespace Go.Proofs.YtnbhhdncbajkgaaGreatDoor
set_option linter.unusedVariables false
set_option linter.unusedSimpArgs false
open Go.RowKit

theorem Own.append {k : IntKind} {e : TypeId} {w : World} {base n : Nat} {v : Value} {xs ys : List Int} (h : w.ownsRow base e 1 v n (xs.map (.int k) ++ ys.map (.int k))) (hn : n = xs.length + ys.length) : Own k e w base v (xs ++ ys) := by
  subst hn
  have := h
  rw [← List.map_append, ← List.length_append] at this
  exact this
theorem run_append_rd {P : Program} (w : World) (t ty e : TypeId) (k : IntKind) (bytes : Nat) (ht : P.underlying t = some (.slice e)) (hi : (P.info? e).map (fun i => (i.zero, i.size, i.bytes)) = some (some (.int k 0), 1, bytes)) (h0 : 0 < bytes)
    (base : Nat) (v : Value) (xs : List Int) (hown : Own k e w base v xs) (p : Option Addr) (c : Nat) (ys : List Int) (hr : Rd k w p ys) (hb : (xs.length + ys.length) * bytes ≤ 140737488355328) (hbase : base ≤ w.heap.size) :
    ∃ v' w', (Builtin.append_ #[t, t] ty #[v, .slice p ys.length c]).run P w = .ok v' w' ∧ Own k e w' base v' (xs ++ ys) ∧ w.grownBy w' v.ownBlock := by
  obtain ⟨i, hi, hz, hs, hby⟩ := info_parts hi
  have hm : xs.length + ys.length ≤ maxLen := by
    have := Nat.le_trans (Nat.le_mul_of_pos_right (xs.length + ys.length) h0) hb
    simp only [maxLen]; omega
  cases p with
  | some ad =>
    obtain ⟨v', w', h1, h2, h3, _⟩ := run_append_own (P := P) w base t ty e i (.int k 0) 1 bytes ht hi hz hs hby rfl (by omega) v xs.length (xs.map (.int k)) hown ad ys.length c (ys.map (.int k)) (by simp) (fun j u hj => by
      have hjl : j < ys.length := by have := (List.getElem?_eq_some_iff.1 hj).1; simpa using this
      obtain ⟨b, o, ea, hc⟩ := hr (by omega)
      obtain rfl := Option.some.inj ea
      rw [Addr.add_lit, hc j hjl]
      rw [List.getElem?_map, List.getElem?_eq_getElem hjl] at hj
      simp at hj
      subst hj
      simp [List.getD, hjl]) (ints_oneCell k ys) hm hb hbase
    exact ⟨v', w', h1, Own.append h2 rfl, h3⟩
  | none =>
    have hy : ys = [] := by
      rcases Nat.eq_zero_or_pos ys.length with h | h
      · exact List.eq_nil_of_length_eq_zero h
      · obtain ⟨b, o, e, _⟩ := hr h; cases e
    subst hy
    refine ⟨v, w, ?_, by simpa using hown, World.grownBy.refl _ _⟩
    rcases hown.2 with ⟨rfl, hn⟩ | ⟨g, cap, cur, rfl, _, _, hnc, _⟩
    · simp [Builtin.append_, run_underlying ht, sizeOf, typeInfo, hi, Builtin.lenOf, Builtin.firstCells, hn]
    · simp [Builtin.append_, run_underlying ht, sizeOf, typeInfo, hi, Builtin.lenOf, Builtin.firstCells, hnc, storeCells]
theorem wpList_append_rd {P : Program} {w : World} {ops : Array Oper} {rest : List Oper} {o : Oper} {a : Act} {Q : Exit → Act → World → Prop} (hgd : o.guard = none) (s x : Operand) (t : TypeId)
    (ho : o.op = .call { callee := .builtin .append, args := #[s, x], argTypes := #[t, t] })
    (e : TypeId) (k : IntKind) (bytes : Nat) (ht : P.underlying t = some (.slice e)) (hi : (P.info? e).map (fun i => (i.zero, i.size, i.bytes)) = some (some (.int k 0), 1, bytes)) (h0 : 0 < bytes)
    (base : Nat) (v : Value) (hs : a.eval s = v) (xs : List Int) (hown : Own k e w base v xs) (p : Option Addr) (c : Nat) (ys : List Int) (hx : a.eval x = .slice p ys.length c) (hr : Rd k w p ys) (hb : (xs.length + ys.length) * bytes ≤ 140737488355328) (hbase : base ≤ w.heap.size)
    (h : ∀ v' w', Own k e w' base v' (xs ++ ys) → w.grownBy w' v.ownBlock → wpList P ops Q rest (a.put o.dst v') w') : wpList P ops Q (o :: rest) a w := by
  refine wpList_plain hgd fun K hK => ?_
  obtain ⟨v', w', hrun, h1, h2⟩ := run_append_rd (P := P) w t o.type e k bytes ht hi h0 base v xs hown p c ys hr hb hbase
  unfold Oper.wp
  simp only [execOp, ho, resolve, invoke, builtin, Sem.run_bind, Sem.run_pure, Result.andThen_ok, List.map_toArray, List.map_cons, List.map_nil, hs, hx, hrun]
  exact hK _ _ (h v' w' h1 h2)
theorem step_append_rd {P : Program} {w : World} {ops : Array Oper} {o : Oper} {a : Act} {K : Act → World → Prop} {Q : Exit → Act → World → Prop} {E : Prop} (hgd : o.guard = none) (s x : Operand) (t : TypeId)
    (ho : o.op = .call { callee := .builtin .append, args := #[s, x], argTypes := #[t, t] })
    (e : TypeId) (k : IntKind) (bytes : Nat) (ht : P.underlying t = some (.slice e)) (hi : (P.info? e).map (fun i => (i.zero, i.size, i.bytes)) = some (some (.int k 0), 1, bytes)) (h0 : 0 < bytes)
    (base : Nat) (v : Value) (hs : a.eval s = v) (xs : List Int) (hown : Own k e w base v xs) (p : Option Addr) (c : Nat) (ys : List Int) (hx : a.eval x = .slice p ys.length c) (hr : Rd k w p ys) (hb : (xs.length + ys.length) * bytes ≤ 140737488355328) (hbase : base ≤ w.heap.size)
    (h : ∀ v' w', Own k e w' base v' (xs ++ ys) → w.grownBy w' v.ownBlock → K (a.put o.dst v') w') :
    if Region.wanted o (yielded ops a.tmps) = true then Oper.wp P o a w K Q else E := by
  have hw : Region.wanted o (yielded ops a.tmps) = true := by simp [Region.wanted, hgd]
  rw [if_pos hw]
  obtain ⟨v', w', hrun, h1, h2⟩ := run_append_rd (P := P) w t o.type e k bytes ht hi h0 base v xs hown p c ys hr hb hbase
  unfold Oper.wp
  simp only [execOp, ho, resolve, invoke, builtin, Sem.run_bind, Sem.run_pure, Result.andThen_ok, List.map_toArray, List.map_cons, List.map_nil, hs, hx, hrun]
  exact h v' w' h1 h2
/-- What an append onto a row of the call's own leaves below. -/
theorem below_app {k : IntKind} {e : TypeId} {w0 w w' : World} {base : Nat} {v : Value} {xs : List Int} (h : Below base w0 w) (hown : Own k e w base v xs) (hg : w.grownBy w' v.ownBlock) (hbase : base ≤ w.heap.size) : Below base w0 w' :=
  h.grown hg hbase fun j hj => (hown.lt j hj).1
theorem Rd.app {k k' : IntKind} {e : TypeId} {w w' : World} {base : Nat} {v : Value} {xs ys : List Int} {p : Option Addr} (h : Rd k' w p ys) (hown : Own k e w base v xs) (hg : w.grownBy w' v.ownBlock) (hp : ∀ a, p = some a → a.block < base) : Rd k' w' p ys := fun h0 => by
  obtain ⟨b, o, rfl, hc⟩ := h h0
  refine ⟨b, o, rfl, fun i hi => hg.cell (hc i hi) fun e => ?_⟩
  have := hp _ rfl
  have := (hown.lt b e.symm).1
  simp at *
  omega
theorem Rd.lt {k : IntKind} {w : World} {b o : Nat} {xs : List Int} (h : Rd k w (some ⟨b, o, none⟩) xs) (h0 : 0 < xs.length) : b < w.heap.size := by
  obtain ⟨b', o', e, hc⟩ := h h0
  cases e
  exact World.block_lt_of_cell? w _ (hc 0 h0)
end Go.Proofs.YtnbhhdncbajkgaaGreatDoor
