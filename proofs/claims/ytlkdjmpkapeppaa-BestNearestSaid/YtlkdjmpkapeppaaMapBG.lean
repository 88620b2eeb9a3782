/- Maps of the call's own: truth values by whole numbers. -/
import Derived.Test.YtlkdjmpkapeppaaG2
import Derived.Maps.Own
import Derived.Maps.OwnOps
import Derived.Maps.Views
namespace Go.Proofs.Ytlkdjmpkapeppaa
set_option linter.unusedVariables false
set_option linter.unusedSimpArgs false
open Go.RowKit
open Go.Maps (Keyed)
open Go.WideElems (Fit rg)
/-- What stands at each key (nothing: no such key). -/
def MapB (P : Program) (k e : TypeId) (q : IntKind) (n : Nat) (f : Int → Option Bool) : Obj → Prop := fun o =>
  ∃ (es : Array MapEntry) (clock : Nat), o = .map es clock ∧ Fit (H := Unit) P k (plainElem P e) es clock ∧ es.size ≤ n ∧
    ∀ x, (Lit.int q x).wf = true → Maps.has (.map ((es.toList.map (rg (H := Unit) P k (plainElem P e))).foldr DataW.insert [])) (.int q x) = (f x).isSome ∧
      ∀ z, (DataW.map ((es.toList.map (rg (H := Unit) P k (plainElem P e))).foldr DataW.insert [])).atKey (.int q x) z = match f x with | some v => .lit (.bool v) | none => z
section
variable {P : Program} {X : List Nat} {w0 w : World} {m0 m : Mem} {es : List Ent} {k e t : TypeId} {q : IntKind} {b n : Nat} {f : Int → Option Bool}
theorem St.mapOwnB (hS : St X w0 m0 w es m) (h : Ent.obj b (MapB P k e q n f) ∈ es) : ∃ D : DataW Unit, w.ownsMap P k (plainElem P e) b n D ∧ ∀ x, (Lit.int q x).wf = true → Maps.has D (.int q x) = (f x).isSome ∧ ∀ z, D.atKey (.int q x) z = match f x with | some v => .lit (.bool v) | none => z := by
  obtain ⟨o, ho, es', clock, rfl, h1, h2, h3⟩ := (hS.has _ h).1
  exact ⟨_, ⟨es', clock, ho, h1, h2, rfl⟩, h3⟩
theorem mapB_of {D : DataW Unit} (h : w.ownsMap P k (plainElem P e) b n D) (hf : ∀ x, (Lit.int q x).wf = true → Maps.has D (.int q x) = (f x).isSome ∧ ∀ z, D.atKey (.int q x) z = match f x with | some v => .lit (.bool v) | none => z) : (Ent.obj b (MapB P k e q n f)).ok w := by
  obtain ⟨es', clock, hb, h1, h2, rfl⟩ := h
  exact ⟨_, hb, es', clock, rfl, h1, h2, hf⟩
theorem plainElem_bool_inv {H : Type} {P : Program} {e : TypeId} (he : P.underlying e = some .bool) {v : Value} {z : DataW H × List MemPlace} (h : plainElem P e v = some z) : ∃ a, v = .bool a ∧ z = (.lit (.bool a), []) := by
  unfold plainElem at h
  rw [he] at h
  cases v <;> simp_all
theorem ownsMap_lookup_boolB {H : Type} {w : World} {D : DataW H} (h : w.ownsMap P k (plainElem P e) b n D) (K : Keyed P k) (ht : P.underlying t = some (.map k e)) (he : P.underlying e = some .bool) (hz : (zeroValue e).run P w = .ok (.bool false) w)
    {key : Value} {kl : Lit} (hkey : keyOf P k key = some kl) : ∃ c, (Instr.lookup t (.map (some b)) key false).run P w = .ok (.bool c) w ∧ D.atKey kl (.lit (.bool false)) = .lit (.bool c) ∧ True := by
  obtain ⟨v, ps, hrun, hv⟩ := h.lookup K ht hz (plainElem_bool he false) hkey
  obtain ⟨c, rfl, hc⟩ := plainElem_bool_inv he hv
  simp only [Prod.mk.injEq] at hc
  exact ⟨c, hrun, hc.1, trivial⟩
variable {ops : Array Oper} {o : Oper} {a : Act} {K : Act → World → Prop} {Q : Exit → Act → World → Prop}
theorem op_makeMapB (hS : St X w0 m0 w es m) (ho : o.op = .makeMap t none) (k e : TypeId) (q : IntKind) (h : ∀ w' b, St X w0 m0 w' (.obj b (MapB P k e q 0 (fun _ => none)) :: es) m → K (a.put o.dst (.map (some b))) w') : o.wp P a w K Q := by
  have hok : (Ent.obj w.heap.size (MapB P k e q 0 (fun _ => none))).ok (w.alloc (.map #[] 0)) := mapB_of (World.ownsMap_made (H := Unit) w P k (plainElem P e)) fun x _ => ⟨rfl, fun z => rfl⟩
  unfold Oper.wp execOp
  simp only [ho, Sem.run_bind, Sem.run_pure, Result.andThen_ok, Option.map_none, run_makeMap]
  exact h _ _ (hS.add _ (World.grownBy_alloc w _ none) hok (fun b hb => by cases hb; exact Nat.le_refl _))
theorem op_lookupB (hS : St X w0 m0 w es m) (mp x : Operand) (ho : o.op = .lookup t mp x false) (hk : P.underlying k = some (.int q)) (ht : P.underlying t = some (.map k e)) (he : P.underlying e = some .bool) (hz : (P.info? e).bind (·.zero) = some (.bool false))
    (hm : a.eval mp = .map (some b)) (hM : Ent.obj b (MapB P k e q n f) ∈ es) {y : Int} (hx : a.eval x = .int q y) (hy : (Lit.int q y).wf = true) (h : K (a.put o.dst (.bool ((f y).getD false))) w) : o.wp P a w K Q := by
  obtain ⟨D, hown, hf⟩ := hS.mapOwnB hM
  have hz' : (zeroValue e).run P w = .ok (.bool false) w := by
    cases hq : P.info? e with
    | none => simp [hq] at hz
    | some i =>
      simp [hq] at hz
      simp [zeroValue, typeInfo, hq, hz]
  obtain ⟨c, hrun, hat, hwc⟩ := ownsMap_lookup_boolB hown (Maps.int_keyed hk) ht he hz' (Maps.keyOf_int_mk hk hy)
  have hc : c = (f y).getD false := by
    rw [(hf y hy).2] at hat
    cases hfy : f y with
    | none => rw [hfy] at hat; simp at hat; simp [hat]
    | some v => rw [hfy] at hat; simp at hat; simp [hat]
  unfold Oper.wp
  simp [execOp, ho, hm, hx, hrun, Result.andThen]
  rw [hc]
  exact h
theorem op_mapUpdateB (hS : St X w0 m0 w es m) (mp x v : Operand) (ho : o.op = .mapUpdate t mp x v) (hk : P.underlying k = some (.int q)) (ht : P.underlying t = some (.map k e)) (he : P.underlying e = some .bool) (hn : n < maxLen)
    (hm : a.eval mp = .map (some b)) {y : Int} {c : Bool} (hx : a.eval x = .int q y) (hy : (Lit.int q y).wf = true) (hv : a.eval v = .bool c) {es' : List Ent} (hU : UpdO es b (MapB P k e q n f) (MapB P k e q (n + 1) (fun z => if z = y then some c else f z)) es')
    (h : ∀ w', St X w0 m0 w' es' m → K (a.put o.dst undef) w') : o.wp P a w K Q := by
  obtain ⟨i, hi, rfl⟩ := hU.at
  obtain ⟨D, hown, hf⟩ := hS.mapOwnB (List.mem_of_getElem? hi)
  obtain ⟨w', hrun, r1, r2⟩ := hown.update (Maps.int_keyed hk) ht hn (Maps.keyOf_int_mk hk hy) (plainElem_bool he c)
  have hD : Maps.IsMap D := by obtain ⟨_, _, _, _, _, rfl⟩ := hown; exact ⟨_, rfl⟩
  have hkl : WideAt.IsKeyLit (Lit.int q y) := (Maps.int_keyed hk).key (Maps.keyOf_int_mk hk hy)
  have hok : (Ent.obj b (MapB P k e q (n + 1) (fun z => if z = y then some c else f z))).ok w' := mapB_of r1 fun z hz => by
    by_cases e : z = y
    · subst e
      rw [if_pos rfl]
      exact ⟨Maps.has_put_same hD hkl _, fun zd => Maps.atKey_put_same hD hkl _ zd⟩
    · rw [if_neg e]
      have hne : (Lit.int q z) ≠ (Lit.int q y) := fun h => e (by cases h; rfl)
      exact ⟨(Maps.has_put_other hne _).trans (hf z hz).1, fun zd => (Maps.atKey_put_other hne _ zd).trans ((hf z hz).2 zd)⟩
  unfold Oper.wp
  simp [execOp, ho, hm, hx, hv, hrun, Result.andThen]
  exact h w' (hS.set i _ _ hi r2 hok (fun _ h => .inl h))
/-- What such a map's type says. -/
structure MapTB (P : Program) (t k e : TypeId) (q : IntKind) : Prop where
  hk : P.underlying k = some (.int q)
  ht : P.underlying t = some (.map k e)
  he : P.underlying e = some .bool
  hz : (P.info? e).bind (·.zero) = some (.bool false)
variable {rest : List Oper} {dst : Option Tmp} {rt : TypeId} {pos : String} {af : Array Edge} {E : Prop} {g : Nat × Bool} {f' : Int → Option Bool}
theorem wl_makeMapB (hS : St X w0 m0 w es m) (hT : MapTB P t k e q) (h : ∀ w' b, St X w0 m0 w' (.obj b (MapB P k e q 0 (fun _ => none)) :: es) m → wpList P ops Q rest (a.put dst (.map (some b))) w') : Wl P ops Q (⟨dst, .makeMap t none, rt, pos, af, none⟩ :: rest) a w :=
  ⟨wpList_plain rfl fun K hK => op_makeMapB hS rfl k e q fun w' b hw => hK _ _ (h w' b hw)⟩
theorem wl_lookupB (hS : St X w0 m0 w es m) (hT : MapTB P t k e q) {mp x : Operand} {y : Int} {v : Bool} (hm : a.eval mp = .map (some b)) (hM : Ent.obj b (MapB P k e q n f) ∈ es) (hx : a.eval x = .int q y) (hy : InK q y) (hv : (f y).getD false = v) (h : wpList P ops Q rest (a.put dst (.bool v)) w) :
    Wl P ops Q (⟨dst, .lookup t mp x false, rt, pos, af, none⟩ :: rest) a w :=
  ⟨wpList_plain rfl fun K hK => op_lookupB hS mp x rfl hT.hk hT.ht hT.he hT.hz hm hM hx (inK_wf hy) (by rw [hv]; exact hK _ _ h)⟩
theorem s_lookupB (hS : St X w0 m0 w es m) (hT : MapTB P t k e q) {mp x : Operand} {y : Int} {v : Bool} (hm : a.eval mp = .map (some b)) (hM : Ent.obj b (MapB P k e q n f) ∈ es) (hx : a.eval x = .int q y) (hy : InK q y) (hv : (f y).getD false = v) (h : K (a.put dst (.bool v)) w) :
    if Region.wanted ⟨dst, .lookup t mp x false, rt, pos, af, none⟩ (yielded ops a.tmps) = true then Oper.wp P ⟨dst, .lookup t mp x false, rt, pos, af, none⟩ a w K Q else E :=
  step_of rfl (op_lookupB hS mp x rfl hT.hk hT.ht hT.he hT.hz hm hM hx (inK_wf hy) (by rw [hv]; exact h))
theorem wl_mapUpdateB (hS : St X w0 m0 w es m) (hT : MapTB P t k e q) {mp x v : Operand} {y : Int} {c : Bool} {es' : List Ent} (hm : a.eval mp = .map (some b)) (hx : a.eval x = .int q y) (hy : InK q y) (hv : a.eval v = .bool c) (hn : n < maxLen) (hf : (fun z => if z = y then some c else f z) = f')
    (hU : UpdO es b (MapB P k e q n f) (MapB P k e q (n + 1) f') es') (h : ∀ w', St X w0 m0 w' es' m → wpList P ops Q rest (a.put dst undef) w') : Wl P ops Q (⟨dst, .mapUpdate t mp x v, rt, pos, af, none⟩ :: rest) a w := by
  subst hf
  exact ⟨wpList_plain rfl fun K hK => op_mapUpdateB hS mp x v rfl hT.hk hT.ht hT.he hn hm hx (inK_wf hy) hv hU fun w' hw => hK _ _ (h w' hw)⟩
end
end Go.Proofs.Ytlkdjmpkapeppaa
