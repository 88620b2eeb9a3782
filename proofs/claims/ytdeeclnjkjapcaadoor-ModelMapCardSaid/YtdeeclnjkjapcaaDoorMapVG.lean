/- Maps of the call's own: any values by whole numbers, with how many there are. -/
import Derived.Test.YtdeeclnjkjapcaaDoorG3
import Derived.Maps.Own
import Derived.Maps.OwnOps
import Derived.Maps.OwnSet
import Derived.Maps.Views
namespace Go.Proofs.YtdeeclnjkjapcaaDoor
set_option linter.unusedVariables false
set_option linter.unusedSimpArgs false
open Go.RowKit
open Go.Maps (Keyed)
open Go.WideElems (Fit rg)
/-- How an element reads: as itself. -/
def selfElem (v : Value) : Option (DataW Value × List MemPlace) := some (.held v, [])
/-- What stands at each key (nothing: no such key), and how many keys there are. -/
def MapV (P : Program) (k : TypeId) (q : IntKind) (c : Nat) (f : Int → Option Value) : Obj → Prop := fun o =>
  ∃ (es : Array MapEntry) (clock : Nat), o = .map es clock ∧ Fit (H := Value) P k selfElem es clock ∧ es.size = c ∧
    ∀ x, (Lit.int q x).wf = true → Maps.has (.map ((es.toList.map (rg (H := Value) P k selfElem)).foldr DataW.insert [])) (.int q x) = (f x).isSome ∧
      ∀ z, (DataW.map ((es.toList.map (rg (H := Value) P k selfElem)).foldr DataW.insert [])).atKey (.int q x) z = match f x with | some v => .held v | none => z
section
variable {P : Program} {X : List Nat} {w0 w : World} {m0 m : Mem} {es : List Ent} {k e t : TypeId} {q : IntKind} {b c : Nat} {f : Int → Option Value}
theorem mapV_size {o : Array MapEntry} : Maps.size (DataW.map ((o.toList.map (rg (H := Value) P k selfElem)).foldr DataW.insert [])) = o.size := by simp [Maps.size, length_sorted]
theorem St.mapOwnV (hS : St X w0 m0 w es m) (h : Ent.obj b (MapV P k q c f) ∈ es) : ∃ D : DataW Value, w.ownsMap P k selfElem b c D ∧ Maps.size D = c ∧ ∀ x, (Lit.int q x).wf = true → Maps.has D (.int q x) = (f x).isSome ∧ ∀ z, D.atKey (.int q x) z = match f x with | some v => .held v | none => z := by
  obtain ⟨o, ho, es', clock, rfl, h1, h2, h3⟩ := (hS.has _ h).1
  exact ⟨_, ⟨es', clock, ho, h1, Nat.le_of_eq h2, rfl⟩, mapV_size.trans h2, h3⟩
theorem mapV_of {D : DataW Value} {n : Nat} (h : w.ownsMap P k selfElem b n D) (hn : Maps.size D = c) (hf : ∀ x, (Lit.int q x).wf = true → Maps.has D (.int q x) = (f x).isSome ∧ ∀ z, D.atKey (.int q x) z = match f x with | some v => .held v | none => z) : (Ent.obj b (MapV P k q c f)).ok w := by
  obtain ⟨es', clock, hb, h1, h2, rfl⟩ := h
  exact ⟨_, hb, es', clock, rfl, h1, mapV_size.symm.trans hn, hf⟩
variable {ops : Array Oper} {o : Oper} {a : Act} {K : Act → World → Prop} {Q : Exit → Act → World → Prop}
theorem op_makeMapV (hS : St X w0 m0 w es m) (ho : o.op = .makeMap t none) (k : TypeId) (q : IntKind) (h : ∀ w' b, St X w0 m0 w' (.obj b (MapV P k q 0 (fun _ => none)) :: es) m → K (a.put o.dst (.map (some b))) w') : o.wp P a w K Q := by
  have hok : (Ent.obj w.heap.size (MapV P k q 0 (fun _ => none))).ok (w.alloc (.map #[] 0)) := mapV_of (World.ownsMap_made (H := Value) w P k selfElem) rfl fun x _ => ⟨rfl, fun z => rfl⟩
  unfold Oper.wp execOp
  simp only [ho, Sem.run_bind, Sem.run_pure, Result.andThen_ok, Option.map_none, run_makeMap]
  exact h _ _ (hS.add _ (World.grownBy_alloc w _ none) hok (fun b hb => by cases hb; exact Nat.le_refl _))
/-- What such a map's type says. -/
structure MapTV (P : Program) (t k e : TypeId) (q : IntKind) (zv : Value) : Prop where
  hk : P.underlying k = some (.int q)
  ht : P.underlying t = some (.map k e)
  hz : (P.info? e).bind (·.zero) = some zv
theorem MapTV.zero {zv : Value} (T : MapTV P t k e q zv) (w : World) : (zeroValue e).run P w = .ok zv w := by
  have hz := T.hz
  cases hq : P.info? e with
  | none => simp [hq] at hz
  | some i =>
    simp [hq] at hz
    simp [zeroValue, typeInfo, hq, hz]
theorem op_lookup2V {zv : Value} (hS : St X w0 m0 w es m) (T : MapTV P t k e q zv) (mp x : Operand) (ho : o.op = .lookup t mp x true)
    (hm : a.eval mp = .map (some b)) (hM : Ent.obj b (MapV P k q c f) ∈ es) {y : Int} (hx : a.eval x = .int q y) (hy : (Lit.int q y).wf = true) (h : K (a.put o.dst (.tuple #[(f y).getD zv, .bool (f y).isSome])) w) : o.wp P a w K Q := by
  obtain ⟨D, hown, _, hf⟩ := hS.mapOwnV hM
  obtain ⟨v, ps, hrun, hv⟩ := hown.look_ok (Maps.int_keyed T.hk) T.ht (T.zero w) (zd := .held zv) rfl (Maps.keyOf_int_mk T.hk hy)
  have hc : v = (f y).getD zv := by
    rw [(hf y hy).2] at hv
    cases hfy : f y with
    | none => rw [hfy] at hv; simp [selfElem] at hv; simp [hv]
    | some u => rw [hfy] at hv; simp [selfElem] at hv; simp [hv]
  rw [(hf y hy).1, hc] at hrun
  unfold Oper.wp
  simp [execOp, ho, hm, hx, hrun, Result.andThen]
  exact h
theorem op_mapUpdateV {zv : Value} (hS : St X w0 m0 w es m) (T : MapTV P t k e q zv) (mp x v : Operand) (ho : o.op = .mapUpdate t mp x v) (hn : c < maxLen)
    (hm : a.eval mp = .map (some b)) {y : Int} {u : Value} (hx : a.eval x = .int q y) (hy : (Lit.int q y).wf = true) (hv : a.eval v = u) {es' : List Ent} (hU : UpdO es b (MapV P k q c f) (MapV P k q (if (f y).isSome then c else c + 1) (fun z => if z = y then some u else f z)) es')
    (h : ∀ w', St X w0 m0 w' es' m → K (a.put o.dst undef) w') : o.wp P a w K Q := by
  obtain ⟨i, hi, rfl⟩ := hU.at
  obtain ⟨D, hown, hsz, hf⟩ := hS.mapOwnV (List.mem_of_getElem? hi)
  have hT := hown.tidy (Maps.int_keyed T.hk)
  obtain ⟨w', hrun, r1, r2⟩ := hown.update (Maps.int_keyed T.hk) T.ht hn (Maps.keyOf_int_mk T.hk hy) (d := .held u) (ps := []) rfl
  have hD : Maps.IsMap D := hT.isMap
  have hkl : WideAt.IsKeyLit (Lit.int q y) := (Maps.int_keyed T.hk).key (Maps.keyOf_int_mk T.hk hy)
  have hsz2 : Maps.size (D.put (.int q y) (.held u)) = if (f y).isSome then c else c + 1 := by rw [Maps.size_put hT, (hf y hy).1, hsz]
  have hok : (Ent.obj b (MapV P k q (if (f y).isSome then c else c + 1) (fun z => if z = y then some u else f z))).ok w' := mapV_of r1 hsz2 fun z hz => by
    by_cases e : z = y
    · subst e
      rw [if_pos rfl]
      exact ⟨Maps.has_put_same hD hkl _, fun zd => Maps.atKey_put_same hD hkl _ zd⟩
    · rw [if_neg e]
      have hne : (Lit.int q z) ≠ (Lit.int q y) := fun h => e (by cases h; rfl)
      exact ⟨(Maps.has_put_other hne _).trans (hf z hz).1, fun zd => (Maps.atKey_put_other hne _ zd).trans ((hf z hz).2 zd)⟩
  unfold Oper.wp
  simp [execOp, ho, hm, hx, hv, hrun, Result.andThen]
  exact h w' (hS.set i _ _ hi r2 hok (fun _ h => .inl h))
theorem op_deleteV {zv : Value} (hS : St X w0 m0 w es m) (T : MapTV P t k e q zv) (mp x : Operand) (ho : o.op = .call { callee := .builtin .delete, args := #[mp, x], argTypes := #[t, k] })
    (hm : a.eval mp = .map (some b)) {y : Int} (hx : a.eval x = .int q y) (hy : (Lit.int q y).wf = true) {es' : List Ent} (hU : UpdO es b (MapV P k q c f) (MapV P k q (if (f y).isSome then c - 1 else c) (fun z => if z = y then none else f z)) es')
    (h : ∀ w', St X w0 m0 w' es' m → K (a.put o.dst (.tuple #[])) w') : o.wp P a w K Q := by
  obtain ⟨i, hi, rfl⟩ := hU.at
  obtain ⟨D, hown, hsz, hf⟩ := hS.mapOwnV (List.mem_of_getElem? hi)
  have hT := hown.tidy (Maps.int_keyed T.hk)
  obtain ⟨w', hrun, r1, r2⟩ := hown.drop (Maps.int_keyed T.hk) T.ht (Maps.keyOf_int_mk T.hk hy) o.type
  have hkl : WideAt.IsKeyLit (Lit.int q y) := (Maps.int_keyed T.hk).key (Maps.keyOf_int_mk T.hk hy)
  have hsz2 : Maps.size (D.del (.int q y)) = if (f y).isSome then c - 1 else c := by
    have := Maps.size_del (k := .int q y) hT
    rw [(hf y hy).1, hsz] at this
    split at this <;> rename_i hh <;> simp only [hh] <;> simp <;> omega
  have hok : (Ent.obj b (MapV P k q (if (f y).isSome then c - 1 else c) (fun z => if z = y then none else f z))).ok w' := mapV_of r1 hsz2 fun z hz => by
    by_cases e : z = y
    · subst e
      rw [if_pos rfl]
      exact ⟨Maps.has_del_same, fun zd => Maps.atKey_del_same zd⟩
    · rw [if_neg e]
      have hne : (Lit.int q z) ≠ (Lit.int q y) := fun h => e (by cases h; rfl)
      exact ⟨(Maps.has_del_other hne).trans (hf z hz).1, fun zd => (Maps.atKey_del_other hne zd).trans ((hf z hz).2 zd)⟩
  unfold Oper.wp
  simp [execOp, ho, resolve, invoke, builtin, hm, hx, hrun, Result.andThen]
  exact h w' (hS.set i _ _ hi r2.grown hok (fun _ h => .inl h))
theorem op_lenV {zv : Value} (hS : St X w0 m0 w es m) (T : MapTV P t k e q zv) (mp : Operand) (ho : o.op = .call { callee := .builtin .len, args := #[mp], argTypes := #[t] })
    (hm : a.eval mp = .map (some b)) (hM : Ent.obj b (MapV P k q c f) ∈ es) (h : K (a.put o.dst (.int .i64 c)) w) : o.wp P a w K Q := by
  obtain ⟨D, hown, hsz, hf⟩ := hS.mapOwnV hM
  have hrun := hown.len T.ht o.type
  rw [hsz] at hrun
  unfold Oper.wp
  simp [execOp, ho, resolve, invoke, builtin, hm, hrun, Result.andThen]
  exact h
variable {rest : List Oper} {dst : Option Tmp} {rt : TypeId} {pos : String} {af : Array Edge} {E : Prop} {g : Nat × Bool}
theorem wl_makeMapV {zv : Value} (hS : St X w0 m0 w es m) (hT : MapTV P t k e q zv) (h : ∀ w' b, St X w0 m0 w' (.obj b (MapV P k q 0 (fun _ => none)) :: es) m → wpList P ops Q rest (a.put dst (.map (some b))) w') : Wl P ops Q (⟨dst, .makeMap t none, rt, pos, af, none⟩ :: rest) a w :=
  ⟨wpList_plain rfl fun K hK => op_makeMapV hS rfl k q fun w' b hw => hK _ _ (h w' b hw)⟩
theorem wl_lookup2V {zv : Value} (hS : St X w0 m0 w es m) (hT : MapTV P t k e q zv) {mp x : Operand} {y : Int} {v : Value} {B : Bool} (hm : a.eval mp = .map (some b)) (hM : Ent.obj b (MapV P k q c f) ∈ es) (hx : a.eval x = .int q y) (hy : InK q y) (hv : (f y).getD zv = v) (hB : (f y).isSome = B) (h : wpList P ops Q rest (a.put dst (.tuple #[v, .bool B])) w) :
    Wl P ops Q (⟨dst, .lookup t mp x true, rt, pos, af, none⟩ :: rest) a w :=
  ⟨wpList_plain rfl fun K hK => op_lookup2V hS hT mp x rfl hm hM hx (inK_wf hy) (by rw [hv, hB]; exact hK _ _ h)⟩
theorem wl_mapUpdateV {zv : Value} (hS : St X w0 m0 w es m) (hT : MapTV P t k e q zv) {mp x v : Operand} {y : Int} {u : Value} {es' : List Ent} {f' : Int → Option Value} {c' : Nat} (hm : a.eval mp = .map (some b)) (hx : a.eval x = .int q y) (hy : InK q y) (hv : a.eval v = u) (hn : c < maxLen) (hf : (fun z => if z = y then some u else f z) = f') (hc : (if (f y).isSome then c else c + 1) = c')
    (hU : UpdO es b (MapV P k q c f) (MapV P k q c' f') es') (h : ∀ w', St X w0 m0 w' es' m → wpList P ops Q rest (a.put dst undef) w') : Wl P ops Q (⟨dst, .mapUpdate t mp x v, rt, pos, af, none⟩ :: rest) a w := by
  subst hf hc
  exact ⟨wpList_plain rfl fun K hK => op_mapUpdateV hS hT mp x v rfl hn hm hx (inK_wf hy) hv hU fun w' hw => hK _ _ (h w' hw)⟩
theorem wl_deleteV {zv : Value} (hS : St X w0 m0 w es m) (hT : MapTV P t k e q zv) {mp x : Operand} {y : Int} {es' : List Ent} {f' : Int → Option Value} {c' : Nat} (hm : a.eval mp = .map (some b)) (hx : a.eval x = .int q y) (hy : InK q y) (hf : (fun z => if z = y then none else f z) = f') (hc : (if (f y).isSome then c - 1 else c) = c')
    (hU : UpdO es b (MapV P k q c f) (MapV P k q c' f') es') (h : ∀ w', St X w0 m0 w' es' m → wpList P ops Q rest (a.put dst (.tuple #[])) w') : Wl P ops Q (⟨dst, .call { callee := .builtin .delete, args := #[mp, x], argTypes := #[t, k] }, rt, pos, af, none⟩ :: rest) a w := by
  subst hf hc
  exact ⟨wpList_plain rfl fun K hK => op_deleteV hS hT mp x rfl hm hx (inK_wf hy) hU fun w' hw => hK _ _ (h w' hw)⟩
theorem wl_lenV {zv : Value} (hS : St X w0 m0 w es m) (hT : MapTV P t k e q zv) {mp : Operand} (hm : a.eval mp = .map (some b)) (hM : Ent.obj b (MapV P k q c f) ∈ es) (h : wpList P ops Q rest (a.put dst (.int .i64 c)) w) : Wl P ops Q (⟨dst, .call { callee := .builtin .len, args := #[mp], argTypes := #[t] }, rt, pos, af, none⟩ :: rest) a w :=
  ⟨wpList_plain rfl fun K hK => op_lenV hS hT mp rfl hm hM (hK _ _ h)⟩
theorem wg_lenV {zv : Value} (hS : St X w0 m0 w es m) (hT : MapTV P t k e q zv) {mp : Operand} (hw : Region.wanted ⟨dst, .call { callee := .builtin .len, args := #[mp], argTypes := #[t] }, rt, pos, af, some g⟩ (yielded ops a.tmps) = true) (hm : a.eval mp = .map (some b)) (hM : Ent.obj b (MapV P k q c f) ∈ es) (h : wpList P ops Q rest (a.put dst (.int .i64 c)) w) : Wl P ops Q (⟨dst, .call { callee := .builtin .len, args := #[mp], argTypes := #[t] }, rt, pos, af, some g⟩ :: rest) a w :=
  ⟨wpList_step fun K hK => step_guard hw (op_lenV hS hT mp rfl hm hM (hK _ _ h))⟩
end
end Go.Proofs.YtdeeclnjkjapcaaDoor
