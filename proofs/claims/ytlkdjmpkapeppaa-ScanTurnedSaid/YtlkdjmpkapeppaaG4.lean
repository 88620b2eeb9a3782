/- Contracts and plain laws that the laws' proofs use, laid together (part 4). -/
import Derived.Test.YtlkdjmpkapeppaaG3
import Derived.Maps.Own
import Derived.Maps.OwnOps
import Derived.Maps.Views
import Derived.WalkKit
import Derived.ProofKit
import Derived.OpenShut
import Derived.SizedLaws
import Derived.Deep.Slices
import Derived.DataReads
import Derived.ChangeSame
import Derived.Lib.SmallJoins
import Derived.Test.YtlkdjmpkapeppaaB
/- Maps of the call's own: truth values by whole numbers. -/
namespace Go.Proofs.Ytlkdjmpkapeppaa
set_option linter.unusedVariables false
set_option linter.unusedSimpArgs false
open Go.RowKit
open Go.Maps (Keyed)
open Go.WideElems (Fit rg)
/-- What stands at each key (nothing: no such key). -/
def MapB (P : Program) (k e : TypeId) (q : IntKind) (n : Nat) (f : Int → Option Bool) : Obj → Prop := fun o =>
  ∃ (es : Array MapEntry) (clock : Nat), o = .map es clock ∧ Fit (H := Unit) P k (plainElem P e) es clock ∧ es.size ≤ n ∧
    ∀ x, (Lit.int q x).wf = true → Maps.has (.map ((es.toList.map (rg (H := Unit) P k (plainElem P e))).foldr DataW.insert [])) (.int q x) = (f x).isSome ∧
      ∀ z, (DataW.map ((es.toList.map (rg (H := Unit) P k (plainElem P e))).foldr DataW.insert [])).atKey (.int q x) z = match f x with | some v => .lit (.bool v) | none => z
section
variable {P : Program} {X : List Nat} {w0 w : World} {m0 m : Mem} {es : List Ent} {k e t : TypeId} {q : IntKind} {b n : Nat} {f : Int → Option Bool}
theorem St.mapOwnB (hS : St X w0 m0 w es m) (h : Ent.obj b (MapB P k e q n f) ∈ es) : ∃ D : DataW Unit, w.ownsMap P k (plainElem P e) b n D ∧ ∀ x, (Lit.int q x).wf = true → Maps.has D (.int q x) = (f x).isSome ∧ ∀ z, D.atKey (.int q x) z = match f x with | some v => .lit (.bool v) | none => z := by
  obtain ⟨o, ho, es', clock, rfl, h1, h2, h3⟩ := (hS.has _ h).1
  exact ⟨_, ⟨es', clock, ho, h1, h2, rfl⟩, h3⟩
theorem mapB_of {D : DataW Unit} (h : w.ownsMap P k (plainElem P e) b n D) (hf : ∀ x, (Lit.int q x).wf = true → Maps.has D (.int q x) = (f x).isSome ∧ ∀ z, D.atKey (.int q x) z = match f x with | some v => .lit (.bool v) | none => z) : (Ent.obj b (MapB P k e q n f)).ok w := by
  obtain ⟨es', clock, hb, h1, h2, rfl⟩ := h
  exact ⟨_, hb, es', clock, rfl, h1, h2, hf⟩
theorem plainElem_bool_inv {H : Type} {P : Program} {e : TypeId} (he : P.underlying e = some .bool) {v : Value} {z : DataW H × List MemPlace} (h : plainElem P e v = some z) : ∃ a, v = .bool a ∧ z = (.lit (.bool a), []) := by
  unfold plainElem at h
  rw [he] at h
  cases v <;> simp_all
theorem ownsMap_lookup_boolB {H : Type} {w : World} {D : DataW H} (h : w.ownsMap P k (plainElem P e) b n D) (K : Keyed P k) (ht : P.underlying t = some (.map k e)) (he : P.underlying e = some .bool) (hz : (zeroValue e).run P w = .ok (.bool false) w)
    {key : Value} {kl : Lit} (hkey : keyOf P k key = some kl) : ∃ c, (Instr.lookup t (.map (some b)) key false).run P w = .ok (.bool c) w ∧ D.atKey kl (.lit (.bool false)) = .lit (.bool c) ∧ True := by
  obtain ⟨v, ps, hrun, hv⟩ := h.lookup K ht hz (plainElem_bool he false) hkey
  obtain ⟨c, rfl, hc⟩ := plainElem_bool_inv he hv
  simp only [Prod.mk.injEq] at hc
  exact ⟨c, hrun, hc.1, trivial⟩
variable {ops : Array Oper} {o : Oper} {a : Act} {K : Act → World → Prop} {Q : Exit → Act → World → Prop}
theorem op_makeMapB (hS : St X w0 m0 w es m) (ho : o.op = .makeMap t none) (k e : TypeId) (q : IntKind) (h : ∀ w' b, St X w0 m0 w' (.obj b (MapB P k e q 0 (fun _ => none)) :: es) m → K (a.put o.dst (.map (some b))) w') : o.wp P a w K Q := by
  have hok : (Ent.obj w.heap.size (MapB P k e q 0 (fun _ => none))).ok (w.alloc (.map #[] 0)) := mapB_of (World.ownsMap_made (H := Unit) w P k (plainElem P e)) fun x _ => ⟨rfl, fun z => rfl⟩
  unfold Oper.wp execOp
  simp only [ho, Sem.run_bind, Sem.run_pure, Result.andThen_ok, Option.map_none, run_makeMap]
  exact h _ _ (hS.add _ (World.grownBy_alloc w _ none) hok (fun b hb => by cases hb; exact Nat.le_refl _))
theorem op_lookupB (hS : St X w0 m0 w es m) (mp x : Operand) (ho : o.op = .lookup t mp x false) (hk : P.underlying k = some (.int q)) (ht : P.underlying t = some (.map k e)) (he : P.underlying e = some .bool) (hz : (P.info? e).bind (·.zero) = some (.bool false))
    (hm : a.eval mp = .map (some b)) (hM : Ent.obj b (MapB P k e q n f) ∈ es) {y : Int} (hx : a.eval x = .int q y) (hy : (Lit.int q y).wf = true) (h : K (a.put o.dst (.bool ((f y).getD false))) w) : o.wp P a w K Q := by
  obtain ⟨D, hown, hf⟩ := hS.mapOwnB hM
  have hz' : (zeroValue e).run P w = .ok (.bool false) w := by
    cases hq : P.info? e with
    | none => simp [hq] at hz
    | some i =>
      simp [hq] at hz
      simp [zeroValue, typeInfo, hq, hz]
  obtain ⟨c, hrun, hat, hwc⟩ := ownsMap_lookup_boolB hown (Maps.int_keyed hk) ht he hz' (Maps.keyOf_int_mk hk hy)
  have hc : c = (f y).getD false := by
    rw [(hf y hy).2] at hat
    cases hfy : f y with
    | none => rw [hfy] at hat; simp at hat; simp [hat]
    | some v => rw [hfy] at hat; simp at hat; simp [hat]
  unfold Oper.wp
  simp [execOp, ho, hm, hx, hrun, Result.andThen]
  rw [hc]
  exact h
theorem op_mapUpdateB (hS : St X w0 m0 w es m) (mp x v : Operand) (ho : o.op = .mapUpdate t mp x v) (hk : P.underlying k = some (.int q)) (ht : P.underlying t = some (.map k e)) (he : P.underlying e = some .bool) (hn : n < maxLen)
    (hm : a.eval mp = .map (some b)) {y : Int} {c : Bool} (hx : a.eval x = .int q y) (hy : (Lit.int q y).wf = true) (hv : a.eval v = .bool c) {es' : List Ent} (hU : UpdO es b (MapB P k e q n f) (MapB P k e q (n + 1) (fun z => if z = y then some c else f z)) es')
    (h : ∀ w', St X w0 m0 w' es' m → K (a.put o.dst undef) w') : o.wp P a w K Q := by
  obtain ⟨i, hi, rfl⟩ := hU.at
  obtain ⟨D, hown, hf⟩ := hS.mapOwnB (List.mem_of_getElem? hi)
  obtain ⟨w', hrun, r1, r2⟩ := hown.update (Maps.int_keyed hk) ht hn (Maps.keyOf_int_mk hk hy) (plainElem_bool he c)
  have hD : Maps.IsMap D := by obtain ⟨_, _, _, _, _, rfl⟩ := hown; exact ⟨_, rfl⟩
  have hkl : WideAt.IsKeyLit (Lit.int q y) := (Maps.int_keyed hk).key (Maps.keyOf_int_mk hk hy)
  have hok : (Ent.obj b (MapB P k e q (n + 1) (fun z => if z = y then some c else f z))).ok w' := mapB_of r1 fun z hz => by
    by_cases e : z = y
    · subst e
      rw [if_pos rfl]
      exact ⟨Maps.has_put_same hD hkl _, fun zd => Maps.atKey_put_same hD hkl _ zd⟩
    · rw [if_neg e]
      have hne : (Lit.int q z) ≠ (Lit.int q y) := fun h => e (by cases h; rfl)
      exact ⟨(Maps.has_put_other hne _).trans (hf z hz).1, fun zd => (Maps.atKey_put_other hne _ zd).trans ((hf z hz).2 zd)⟩
  unfold Oper.wp
  simp [execOp, ho, hm, hx, hv, hrun, Result.andThen]
  exact h w' (hS.set i _ _ hi r2 hok (fun _ h => .inl h))
/-- What such a map's type says. -/
structure MapTB (P : Program) (t k e : TypeId) (q : IntKind) : Prop where
  hk : P.underlying k = some (.int q)
  ht : P.underlying t = some (.map k e)
  he : P.underlying e = some .bool
  hz : (P.info? e).bind (·.zero) = some (.bool false)
variable {rest : List Oper} {dst : Option Tmp} {rt : TypeId} {pos : String} {af : Array Edge} {E : Prop} {g : Nat × Bool} {f' : Int → Option Bool}
theorem wl_makeMapB (hS : St X w0 m0 w es m) (hT : MapTB P t k e q) (h : ∀ w' b, St X w0 m0 w' (.obj b (MapB P k e q 0 (fun _ => none)) :: es) m → wpList P ops Q rest (a.put dst (.map (some b))) w') : Wl P ops Q (⟨dst, .makeMap t none, rt, pos, af, none⟩ :: rest) a w :=
  ⟨wpList_plain rfl fun K hK => op_makeMapB hS rfl k e q fun w' b hw => hK _ _ (h w' b hw)⟩
theorem wl_lookupB (hS : St X w0 m0 w es m) (hT : MapTB P t k e q) {mp x : Operand} {y : Int} {v : Bool} (hm : a.eval mp = .map (some b)) (hM : Ent.obj b (MapB P k e q n f) ∈ es) (hx : a.eval x = .int q y) (hy : InK q y) (hv : (f y).getD false = v) (h : wpList P ops Q rest (a.put dst (.bool v)) w) :
    Wl P ops Q (⟨dst, .lookup t mp x false, rt, pos, af, none⟩ :: rest) a w :=
  ⟨wpList_plain rfl fun K hK => op_lookupB hS mp x rfl hT.hk hT.ht hT.he hT.hz hm hM hx (inK_wf hy) (by rw [hv]; exact hK _ _ h)⟩
theorem s_lookupB (hS : St X w0 m0 w es m) (hT : MapTB P t k e q) {mp x : Operand} {y : Int} {v : Bool} (hm : a.eval mp = .map (some b)) (hM : Ent.obj b (MapB P k e q n f) ∈ es) (hx : a.eval x = .int q y) (hy : InK q y) (hv : (f y).getD false = v) (h : K (a.put dst (.bool v)) w) :
    if Region.wanted ⟨dst, .lookup t mp x false, rt, pos, af, none⟩ (yielded ops a.tmps) = true then Oper.wp P ⟨dst, .lookup t mp x false, rt, pos, af, none⟩ a w K Q else E :=
  step_of rfl (op_lookupB hS mp x rfl hT.hk hT.ht hT.he hT.hz hm hM hx (inK_wf hy) (by rw [hv]; exact h))
theorem wl_mapUpdateB (hS : St X w0 m0 w es m) (hT : MapTB P t k e q) {mp x v : Operand} {y : Int} {c : Bool} {es' : List Ent} (hm : a.eval mp = .map (some b)) (hx : a.eval x = .int q y) (hy : InK q y) (hv : a.eval v = .bool c) (hn : n < maxLen) (hf : (fun z => if z = y then some c else f z) = f')
    (hU : UpdO es b (MapB P k e q n f) (MapB P k e q (n + 1) f') es') (h : ∀ w', St X w0 m0 w' es' m → wpList P ops Q rest (a.put dst undef) w') : Wl P ops Q (⟨dst, .mapUpdate t mp x v, rt, pos, af, none⟩ :: rest) a w := by
  subst hf
  exact ⟨wpList_plain rfl fun K hK => op_mapUpdateB hS mp x v rfl hT.hk hT.ht hT.he hn hm hx (inK_wf hy) hv hU fun w' hw => hK _ _ (h w' hw)⟩
end
end Go.Proofs.Ytlkdjmpkapeppaa
/- The reference's Less, May, Check of hits. -/
namespace Go.Proofs.Ytlkdjmpkapeppaa
set_option linter.unusedVariables false
set_option linter.unusedSimpArgs false
open Go.RowKit Go.Shelf
set_option maxRecDepth 100000 in
set_option maxHeartbeats 2000000 in
theorem rless_v (m : Mem) (w : World) (hm : m.In w) (d1 i1 d2 i2 : Int) :
    Calls Try.prog 23 #[.agg #[.int .i64 d1, .int .i64 i1], .agg #[.int .i64 d2, .int .i64 i2]] w (Ret w m fun v _ => v = .bool (decide ((⟨d1, i1⟩ : Hit).lt ⟨d2, i2⟩))) := by
  have hS := St.start hm
  have key : (d1 < d2 ∧ decide ((⟨d1, i1⟩ : Hit).lt ⟨d2, i2⟩) = true) ∨ ((¬ d1 < d2) ∧ ¬ d1 = d2 ∧ decide ((⟨d1, i1⟩ : Hit).lt ⟨d2, i2⟩) = false) ∨ (d1 = d2 ∧ decide ((⟨d1, i1⟩ : Hit).lt ⟨d2, i2⟩) = decide (i1 < i2)) := by
    by_cases h1 : d1 < d2
    · exact .inl ⟨h1, decide_eq_true (.inl h1)⟩
    · by_cases h2 : d1 = d2
      · subst h2
        refine .inr (.inr ⟨rfl, decide_eq_decide.2 ?_⟩)
        simp [Hit.lt]
      · exact .inr (.inl ⟨h1, h2, decide_eq_false fun h => by rcases h with h | h; exact h1 h; exact h2 h.1⟩)
  rcases key with ⟨h1, h2⟩ | ⟨h1, h3, h2⟩ | ⟨rfl, h2⟩
  all_goals
    rw [h2]
    clear h2
    go_enter Try.func23, Try.ntmps23
    go_wp2_with (first 
    | ((with_reducible refine' Wl.out ?_; apply k_box (ty := 30) (y := (.tmp 0)) hS); (· exact .mk); clear hS; intro w2 b2 hS)
    | ((with_reducible refine' Wl.out ?_; apply k_box hS); (· exact .mk); clear hS; intro _ _ hS)
    | ((with_reducible refine' Wl.out ?_; apply k_load hS); (· exact .mk))
    | go_skip
    | ((with_reducible refine' Wl.out ?_; apply kg_load hS); iterate 2 (· exact .mk))
    | ((with_reducible refine' Wl.out ?_; refine' wg_case ?_ ?_) <;> (intro hgW; (try (have hg2 := hgW; simp [go_sem] at hg2)); (first | (exfalso; assumption) | ((with_reducible refine' Wl.out ?_; apply k_no hgW)) | ((with_reducible refine' Wl.out ?_; apply kg_load hS ⟨hgW⟩); (· exact .mk))); clear hgW)))
    go_ret
    exact ⟨_, m, rfl, by simp, hS.done⟩
set_option maxRecDepth 100000 in
set_option maxHeartbeats 2000000 in
theorem may_v (m : Mem) (w : World) (hm : m.In w) (d i : Int) :
    Calls Try.prog 40 #[.agg #[.int .i64 d, .int .i64 i]] w (Ret w m fun v _ => v = .bool (decide (fineH ⟨d, i⟩))) := by
  have hS := St.start hm
  go_enter Try.func40, Try.ntmps40
  go_wp2_with (first 
    | ((with_reducible refine' Wl.out ?_; apply k_box hS); (· exact .mk); clear hS; intro _ _ hS)
    | ((with_reducible refine' Wl.out ?_; apply k_load hS); (· exact .mk))
    | go_skip
    | ((with_reducible refine' Wl.out ?_; apply kg_load hS); iterate 2 (· exact .mk))
    | ((with_reducible refine' Wl.out ?_; refine' wg_case ?_ ?_) <;> (intro hgW; (try (have hg2 := hgW; simp [go_sem] at hg2)); (first | (exfalso; assumption) | ((with_reducible refine' Wl.out ?_; apply k_no hgW)) | ((with_reducible refine' Wl.out ?_; apply kg_load hS ⟨hgW⟩); (· exact .mk))); clear hgW)))
  all_goals (go_ret; exact ⟨_, m, rfl, vbool (by simp_all [fineH, Bool.and_assoc] <;> first | done | omega | (apply decide_eq_false; omega)), hS.done⟩)
theorem not_fine {l : List Hit} {k : Nat} (hk : k < l.length) (h : ¬ fineH l[k]) : ¬ ∀ x ∈ l, fineH x := fun hh => h (hh _ (List.getElem_mem hk))
/-- As far as the reference has looked. -/
def PreR (l : List Hit) (k : Nat) : Prop := (∀ x ∈ l.take k, fineH x) ∧ PreH l k
theorem PreR.succ {l : List Hit} {k : Nat} (h : PreR l k) (hk : k < l.length) (hf : fineH l[k]) (hn : l[k].id ∉ (l.take k).map Hit.id) (hh : 0 < k → ¬ (l.getD ((k - 1) / 2) hz).lt l[k]) : PreR l (k + 1) := by
  refine ⟨fun x hx => ?_, h.2.succ hk rfl hn hh⟩
  rw [List.take_succ_eq_append_getElem hk] at hx
  rcases List.mem_append.1 hx with hx | hx
  · exact h.1 x hx
  · simp at hx; subst hx; exact hf
set_option maxRecDepth 100000 in
set_option maxHeartbeats 8000000 in
theorem rcheck16_c (m : Mem) (w : World) (hm : m.In w) (v : Value) (xs : List Hit) (hr : hitL.list.rd m [v] xs) (K : Int) (hK : InK .i64 K) :
    Calls Try.prog 22 #[v, .int .i64 K] w (Ret w m fun v _ => v = .int .i64 (chkE xs K)) := by
  have hS := St.start hm
  obtain ⟨q, c, rfl, h1, h2, h3, hrow⟩ := Lay.list_open hr
  have hl : xs.length ≤ 9223372036854775807 := by simp only [maxLen] at h2; omega
  have hlc := h1
  have hcm : c ≤ 9223372036854775807 := by simp only [maxLen] at h2; omega
  have HR := Lib.hid hrow
  clear hr h1 h2 h3 hrow
  have no : ¬ okH xs K → chkE xs K = 1 := fun h => if_neg h
  by_cases a1 : K < 1
  · rw [no fun o => by have := o.1; omega]
    clear HR
    go_enter Try.func22, Try.ntmps22
    go_wp2_with fail
    go_ret
    exact ⟨_, m, rfl, rfl, hS⟩
  by_cases a2 : 256 < K
  · rw [no fun o => by have := o.2.1; omega]
    clear HR
    go_enter Try.func22, Try.ntmps22
    go_wp2_with fail
    go_ret
    exact ⟨_, m, rfl, rfl, hS⟩
  by_cases a3 : K < (xs.length : Int)
  · rw [no fun o => by have := o.2.2.1; omega]
    clear HR
    go_enter Try.func22, Try.ntmps22
    go_wp2_with fail
    go_ret
    exact ⟨_, m, rfl, rfl, hS⟩
  have yes : Hid (PreR xs xs.length → chkE xs K = 0) := fun h => by
    obtain ⟨o1, o2⟩ := h.2.all
    have := h.1
    rw [List.take_length] at this
    exact if_pos ⟨by omega, by omega, by omega, this, o1, o2⟩
  have no1 : Hid (¬ (∀ x ∈ xs, fineH x) → chkE xs K = 1) := fun h => no fun o => h o.2.2.2.1
  have no2 : Hid (¬ (xs.map Hit.id).Nodup → chkE xs K = 1) := fun h => no fun o => h o.2.2.2.2.1
  have no3 : Hid (¬ Heap xs xs.length → chkE xs K = 1) := fun h => no fun o => h o.2.2.2.2.2
  clear no
  generalize chkE xs K = R at *
  go_enter Try.func22, Try.ntmps22
  go_wp2_with fail
  go_loopw [23] (fun i wr => ∃ k : Nat, k ≤ xs.length ∧ i = .int .i64 k ∧ Hid (PreR xs k) ∧ St [] w m wr [] m) (fun i _ => xs.length - (intOf i).toNat)
  case atStart => exact ⟨0, Nat.zero_le _, rfl, ⟨by simp, PreH.zero _⟩, hS⟩
  case round =>
    clear hS
    obtain ⟨k, hk, rfl, hP, hS⟩ := hrel
    by_cases hlt : k < xs.length
    · have hk1 : (k : Int) < xs.length := by omega
      obtain ⟨bq, oq, cs, rfl, hcs, hcell⟩ := HR.out.get k hlt
      obtain ⟨rfl, i1, i2⟩ := hitL_open hcs
      have hcx : ∀ j v, [Value.int .i64 xs[k].dist, .int .i64 xs[k].id][j]? = some v → m ⟨bq, oq + k * 2 + j, none⟩ = some v := hcell
      have s5 : xs[k] = xs.getD k hz := by simp [List.getD, hlt]
      clear hcs hcell
      by_cases hfine : fineH xs[k]
      · have HF : Hid (decide (fineH ⟨xs[k].dist, xs[k].id⟩) = true) := decide_eq_true hfine
        have hxe : xs[k] = ⟨xs[k].dist, xs[k].id⟩ := rfl
        rcases Nat.eq_zero_or_pos k with hk0 | hk0
        · have hN : Hid (xs[k].id ∉ (xs.take k).map Hit.id → PreR xs (k + 1)) := fun hn => hP.out.succ hlt hfine hn (fun h => by omega)
          subst hk0
          clear s5 hP hxe hfine
          obtain ⟨xd, hxd⟩ : ∃ d, xs[0].dist = d := ⟨_, rfl⟩
          obtain ⟨xid, hxi⟩ : ∃ d, xs[0].id = d := ⟨_, rfl⟩
          rw [hxd, hxi] at HF hcx
          rw [hxi] at hN i2
          rw [hxd] at i1
          have HX := Lib.hid hxi
          clear hxd hxi
          go_wp2_with (first 
    | ((with_reducible refine' Wl.out ?_; apply k_alloc (ty := 30) (dst := some 6) hS); (· exact .mk); clear hS; intro w6 b6 hS)
    | ((with_reducible refine' Wl.out ?_; apply k_alloc (ty := 30) (dst := some 8) hS); (· exact .mk); clear hS; intro w8 b8 hS)
    | ((with_reducible refine' Wl.out ?_; apply k_load hS); (· exact .mk))
    | ((with_reducible refine' Wl.out ?_; apply k_loads hS); (· exact .mk))
    | go_skip
    | ((with_reducible refine' Wl.out ?_; apply kg_load hS); iterate 2 (· exact .mk))
    | ((with_reducible refine' Wl.out ?_; apply kg_loads hS); iterate 2 (· exact .mk))
    | ((with_reducible refine' Wl.out ?_; refine' wg_case ?_ ?_) <;> (intro hgW; (try (have hg2 := hgW; simp [go_sem] at hg2)); (first | (exfalso; assumption) | ((with_reducible refine' Wl.out ?_; apply k_no hgW)) | ((with_reducible refine' Wl.out ?_; apply kg_load hS ⟨hgW⟩); (· exact .mk)) | ((with_reducible refine' Wl.out ?_; apply kg_loads hS ⟨hgW⟩); (· exact .mk))); clear hgW))
    | ((with_reducible refine' Wl.out ?_; apply k_stores hS); (· exact .mk); clear hS; intro ws hS))
          replace hS := hS.drew
          refine startL (S := Sx _ [(b6, _)]) (by kernel_rfl) (hS.sx0.cons hS (by (repeat constructor))) (fun _ _ _ _ => trivial) (fun hHeld => ?_)
          refine takeN 0 rfl (by kernel_rfl) (yield_loads rfl rowT30 rfl (by (first | (apply FindsX.box; (· (repeat constructor)); (· (repeat constructor)); done) | (refine FindsX.mem (by assumption) ?_; first | rfl | assumption | (simp; done))))) ?_
          try simp only [Act.put, nz1, nz2, nz3]
          refine wpAnyH_ready (rs := [1]) (by kernel_rfl) (by simp) ?_
          refine consL 1 rfl (fun K hK => ?_) AllReadyH.nil
          rw [if_pos (by rfl)]; go_simp; refine (may_v _ _ hS.inw _ _).mono ?_; rintro e' w29 ⟨_, m29, rfl, hv29, hk29⟩; replace hS := hS.grow (grownBy_of_below hk29.below); clear hk29; rw [HF.out] at hv29; subst hv29; go_wp2_with fail
          refine hK.out _ _ (by first | exact (hS.sx0.cons hS (by (repeat constructor))) | exact Sx.le (by assumption) (hS.sx0.cons hS (by (repeat constructor)))) (fun hHeld => ?_)
          clear hK K
          try simp only [Act.put, nz1, nz2, nz3]
          focus (refine takeN 2 (v := ?_) rfl (by kernel_rfl) ?_ ?_; rotate_left; focus (intro w hSw; clear hSw; go_simp; try with_reducible rfl))
          try simp only [Act.put, nz1, nz2, nz3]
          focus (refine takeN 3 (v := ?_) rfl (by kernel_rfl) ?_ ?_; rotate_left; focus (intro w hSw; clear hSw; go_simp; try with_reducible rfl))
          try simp only [Act.put, nz1, nz2, nz3]
          first | (focus (refine takeG 4 (v := ?_) rfl (by kernel_rfl) ?_ ?_ ?_; rotate_left; (focus (first | rfl | (go_simp <;> fail))); (focus (intro w hSw; clear hSw; go_simp; try with_reducible rfl)))) | (refine skipG 4 rfl (by kernel_rfl) ?_ ?_; (focus (first | rfl | (go_simp <;> fail))))
          try simp only [Act.put, nz1, nz2, nz3]
          first | (focus (refine takeG 5 (v := ?_) rfl (by kernel_rfl) ?_ ?_ ?_; rotate_left; (focus (first | rfl | (go_simp <;> fail))); (focus (intro w hSw; clear hSw; go_simp; try with_reducible rfl)))) | (refine skipG 5 rfl (by kernel_rfl) ?_ ?_; (focus (first | rfl | (go_simp <;> fail))))
          try simp only [Act.put, nz1, nz2, nz3]
          first | (focus (refine takeG 6 (v := ?_) rfl (by kernel_rfl) ?_ ?_ ?_; rotate_left; (focus (first | rfl | (go_simp <;> fail))); (focus (intro w hSw; clear hSw; go_simp; try with_reducible rfl)))) | (refine skipG 6 rfl (by kernel_rfl) ?_ ?_; (focus (first | rfl | (go_simp <;> fail))))
          try simp only [Act.put, nz1, nz2, nz3]
          first | (focus (refine takeG 7 (v := ?_) rfl (by kernel_rfl) ?_ ?_ ?_; rotate_left; (focus (first | rfl | (go_simp <;> fail))); (focus (intro w hSw; clear hSw; go_simp; try with_reducible rfl)))) | (refine skipG 7 rfl (by kernel_rfl) ?_ ?_; (focus (first | rfl | (go_simp <;> fail))))
          try simp only [Act.put, nz1, nz2, nz3]
          first | (focus (refine takeG 8 (v := ?_) rfl (by kernel_rfl) ?_ ?_ ?_; rotate_left; (focus (first | rfl | (go_simp <;> fail))); (focus (intro w hSw; clear hSw; go_simp; try with_reducible rfl)))) | (refine skipG 8 rfl (by kernel_rfl) ?_ ?_; (focus (first | rfl | (go_simp <;> fail))))
          try simp only [Act.put, nz1, nz2, nz3]
          first | (focus (refine takeG 9 (v := ?_) rfl (by kernel_rfl) ?_ ?_ ?_; rotate_left; (focus (first | rfl | (go_simp <;> fail))); (focus (intro w hSw; clear hSw; go_simp; try with_reducible rfl)))) | (refine skipG 9 rfl (by kernel_rfl) ?_ ?_; (focus (first | rfl | (go_simp <;> fail))))
          try simp only [Act.put, nz1, nz2, nz3]
          first | (focus (refine takeG 10 (v := ?_) rfl (by kernel_rfl) ?_ ?_ ?_; rotate_left; (focus (first | rfl | (go_simp <;> fail))); (focus (intro w hSw; clear hSw; go_simp; try with_reducible rfl)))) | (refine skipG 10 rfl (by kernel_rfl) ?_ ?_; (focus (first | rfl | (go_simp <;> fail))))
          try simp only [Act.put, nz1, nz2, nz3]
          first | (focus (refine takeG 11 (v := ?_) rfl (by kernel_rfl) ?_ ?_ ?_; rotate_left; (focus (first | rfl | (go_simp <;> fail))); (focus (intro w hSw; clear hSw; go_simp; try with_reducible rfl)))) | (refine skipG 11 rfl (by kernel_rfl) ?_ ?_; (focus (first | rfl | (go_simp <;> fail))))
          try simp only [Act.put, nz1, nz2, nz3]
          first | (focus (refine' takeG 12 rfl (by kernel_rfl) ?_ ?_ ?_; rotate_left; (focus (first | rfl | (go_simp <;> fail))); (focus (intro w hSw; refine' yield_loads rfl rowT30 rfl ?_ w hSw; (first | (apply FindsX.box; (· (repeat constructor)); (· (repeat constructor)); done) | (refine FindsX.mem (by assumption) ?_; first | rfl | assumption | (simp; done))))))) | (refine skipG 12 rfl (by kernel_rfl) ?_ ?_; (focus (first | rfl | (go_simp <;> fail))))
          try simp only [Act.put, nz1, nz2, nz3]
          first | (focus (refine' takeG 13 rfl (by kernel_rfl) ?_ ?_ ?_; rotate_left; (focus (first | rfl | (go_simp <;> fail))); (focus (intro w hSw; refine' yield_loads rfl rowT30 rfl ?_ w hSw; (first | (apply FindsX.box; (· (repeat constructor)); (· (repeat constructor)); done) | (refine FindsX.mem (by assumption) ?_; first | rfl | assumption | (simp; done))))))) | (refine skipG 13 rfl (by kernel_rfl) ?_ ?_; (focus (first | rfl | (go_simp <;> fail))))
          try simp only [Act.put, nz1, nz2, nz3]
          refine wpAnyH_ready (rs := [14]) (by kernel_rfl) (by simp) ?_
          refine consL 14 rfl (fun K hK => ?_) AllReadyH.nil
          rw [if_neg (by exact Bool.false_ne_true)]
          refine hK.out _ _ (by first | exact (hS.sx0.cons hS (by (repeat constructor))) | exact Sx.le (by assumption) (hS.sx0.cons hS (by (repeat constructor)))) (fun hHeld => ?_)
          clear hK K
          try simp only [Act.put, nz1, nz2, nz3]
          first | (focus (refine takeG 15 (v := ?_) rfl (by kernel_rfl) ?_ ?_ ?_; rotate_left; (focus (first | rfl | (go_simp <;> fail))); (focus (intro w hSw; clear hSw; go_simp; try with_reducible rfl)))) | (refine skipG 15 rfl (by kernel_rfl) ?_ ?_; (focus (first | rfl | (go_simp <;> fail))))
          try simp only [Act.put, nz1, nz2, nz3]
          focus (refine takeN 16 (v := ?_) rfl (by kernel_rfl) ?_ ?_; rotate_left; focus (intro w hSw; clear hSw; go_simp; try with_reducible rfl))
          try simp only [Act.put, nz1, nz2, nz3]
          refine wpAnyH_done (by kernel_rfl) ?_ _
          refine NoPanic.normal ?_
          all_goals
            have hN2 := Lib.hid (hN.out (by simp))
            clear hN
            go_wp2_with (first 
    | ((with_reducible refine' Wl.out ?_; apply k_alloc (ty := 30) (dst := some 6) hS); (· exact .mk); clear hS; intro w6 b6 hS)
    | ((with_reducible refine' Wl.out ?_; apply k_alloc (ty := 30) (dst := some 8) hS); (· exact .mk); clear hS; intro w8 b8 hS)
    | ((with_reducible refine' Wl.out ?_; apply k_load hS); (· exact .mk))
    | ((with_reducible refine' Wl.out ?_; apply k_loads hS); (· exact .mk))
    | go_skip
    | ((with_reducible refine' Wl.out ?_; apply kg_load hS); iterate 2 (· exact .mk))
    | ((with_reducible refine' Wl.out ?_; apply kg_loads hS); iterate 2 (· exact .mk))
    | ((with_reducible refine' Wl.out ?_; refine' wg_case ?_ ?_) <;> (intro hgW; (try (have hg2 := hgW; simp [go_sem] at hg2)); (first | (exfalso; assumption) | ((with_reducible refine' Wl.out ?_; apply k_no hgW)) | ((with_reducible refine' Wl.out ?_; apply kg_load hS ⟨hgW⟩); (· exact .mk)) | ((with_reducible refine' Wl.out ?_; apply kg_loads hS ⟨hgW⟩); (· exact .mk))); clear hgW))
    | ((with_reducible refine' Wl.out ?_; apply k_stores hS); (· exact .mk); clear hS; intro ws hS))
            go_loopw [49] (fun j wr => j = .int .i64 0 ∧ St [] w m wr [.box b6 [.int .i64 xd, .int .i64 xid]] m) (fun _ _ => 0)
            case atStart => exact ⟨rfl, hS⟩
            case round =>
              clear hS
              obtain ⟨rfl, hS⟩ := hrel
              go_wp2_with fail
              go_roundw
              case rel => exact ⟨0 + 1, hlt, by go_num, hN2, hS.done⟩
              case measure => (simp [intOf]; try omega)
        · obtain ⟨p, rfl⟩ : ∃ p, k = p + 1 := ⟨k - 1, by omega⟩
          have hpl : p / 2 < xs.length := by omega
          obtain ⟨b2, o2, cs, e2, hcs, hcell⟩ := HR.out.get (p / 2) hpl
          cases e2
          obtain ⟨rfl, j1, j2⟩ := hitL_open hcs
          have hcy : ∀ j v, [Value.int .i64 xs[p / 2].dist, .int .i64 xs[p / 2].id][j]? = some v → m ⟨bq, oq + p / 2 * 2 + j, none⟩ = some v := hcell
          have s6 : xs[p / 2] = xs.getD ((p + 1 - 1) / 2) hz := by simp [List.getD, hpl]
          have hp1 : ¬ (xs.length : Int) ≤ (p : Int) / 2 := by omega
          have hp2 : ((p : Int) / 2).toNat = p / 2 := by omega
          have hp3 : (0 : Int) ≤ (p : Int) / 2 := by omega
          have hw1 : IntKind.i64.wrap (p : Int) = p := by simp [IntKind.wrap, IntKind.bits, IntKind.signed]; omega
          have hw3 : IntKind.i64.wrap ((p : Int) / 2) = (p : Int) / 2 := by simp [IntKind.wrap, IntKind.bits, IntKind.signed]; omega
          have hw2 : IntKind.i64.wrap ((p : Int).tdiv 2) = (p : Int) / 2 := by simp [IntKind.wrap, IntKind.bits, IntKind.signed, Int.tdiv_eq_ediv_of_nonneg]; omega
          clear hcs hcell
          by_cases hlt2 : xs[p / 2].lt xs[p + 1]
          · have hR : Hid (R = 1) := no3.out fun hh => hh (p + 1) (by omega) hlt (by rw [← s5, ← s6]; exact hlt2)
            have HL : Hid (decide ((⟨xs[p / 2].dist, xs[p / 2].id⟩ : Hit).lt ⟨xs[p + 1].dist, xs[p + 1].id⟩) = true) := decide_eq_true hlt2
            clear no1 no2 no3 yes hP s5 s6 HR hlt2 hxe hfine
            generalize xs[p + 1] = x at *
            generalize xs[p / 2] = y at *
            go_wp2_with (first 
    | ((with_reducible refine' Wl.out ?_; apply k_alloc (ty := 30) (dst := some 6) hS); (· exact .mk); clear hS; intro w6 b6 hS)
    | ((with_reducible refine' Wl.out ?_; apply k_alloc (ty := 30) (dst := some 8) hS); (· exact .mk); clear hS; intro w8 b8 hS)
    | ((with_reducible refine' Wl.out ?_; apply k_load hS); (· exact .mk))
    | ((with_reducible refine' Wl.out ?_; apply k_loads hS); (· exact .mk))
    | go_skip
    | ((with_reducible refine' Wl.out ?_; apply kg_load hS); iterate 2 (· exact .mk))
    | ((with_reducible refine' Wl.out ?_; apply kg_loads hS); iterate 2 (· exact .mk))
    | ((with_reducible refine' Wl.out ?_; refine' wg_case ?_ ?_) <;> (intro hgW; (try (have hg2 := hgW; simp [go_sem] at hg2)); (first | (exfalso; assumption) | ((with_reducible refine' Wl.out ?_; apply k_no hgW)) | ((with_reducible refine' Wl.out ?_; apply kg_load hS ⟨hgW⟩); (· exact .mk)) | ((with_reducible refine' Wl.out ?_; apply kg_loads hS ⟨hgW⟩); (· exact .mk))); clear hgW))
    | ((with_reducible refine' Wl.out ?_; apply k_stores hS); (· exact .mk); clear hS; intro ws hS))
            replace hS := hS.drew
            refine startL (S := Sx _ [(b6, _)]) (by kernel_rfl) (hS.sx0.cons hS (by (repeat constructor))) (fun _ _ _ _ => trivial) (fun hHeld => ?_)
            refine takeN 0 rfl (by kernel_rfl) (yield_loads rfl rowT30 rfl (by (first | (apply FindsX.box; (· (repeat constructor)); (· (repeat constructor)); done) | (refine FindsX.mem (by assumption) ?_; first | rfl | assumption | (simp; done))))) ?_
            try simp only [Act.put, nz1, nz2, nz3]
            refine wpAnyH_ready (rs := [1]) (by kernel_rfl) (by simp) ?_
            refine consL 1 rfl (fun K hK => ?_) AllReadyH.nil
            rw [if_pos (by rfl)]; go_simp; refine (may_v _ _ hS.inw _ _).mono ?_; rintro e' w29 ⟨_, m29, rfl, hv29, hk29⟩; replace hS := hS.grow (grownBy_of_below hk29.below); clear hk29; rw [HF.out] at hv29; subst hv29; go_wp2_with fail
            refine hK.out _ _ (by first | exact (hS.sx0.cons hS (by (repeat constructor))) | exact Sx.le (by assumption) (hS.sx0.cons hS (by (repeat constructor)))) (fun hHeld => ?_)
            clear hK K
            try simp only [Act.put, nz1, nz2, nz3]
            focus (refine takeN 2 (v := ?_) rfl (by kernel_rfl) ?_ ?_; rotate_left; focus (intro w hSw; clear hSw; go_simp; try with_reducible rfl))
            try simp only [Act.put, nz1, nz2, nz3]
            focus (refine takeN 3 (v := ?_) rfl (by kernel_rfl) ?_ ?_; rotate_left; focus (intro w hSw; clear hSw; go_simp; try with_reducible rfl))
            try simp only [Act.put, nz1, nz2, nz3]
            first | (focus (refine takeG 4 (v := ?_) rfl (by kernel_rfl) ?_ ?_ ?_; rotate_left; (focus (first | rfl | (go_simp <;> fail))); (focus (intro w hSw; clear hSw; go_simp; try with_reducible rfl)))) | (refine skipG 4 rfl (by kernel_rfl) ?_ ?_; (focus (first | rfl | (go_simp <;> fail))))
            try simp only [Act.put, nz1, nz2, nz3]
            first | (focus (refine takeG 5 (v := ?_) rfl (by kernel_rfl) ?_ ?_ ?_; rotate_left; (focus (first | rfl | (go_simp <;> fail))); (focus (intro w hSw; clear hSw; go_simp; try with_reducible rfl)))) | (refine skipG 5 rfl (by kernel_rfl) ?_ ?_; (focus (first | rfl | (go_simp <;> fail))))
            try simp only [Act.put, nz1, nz2, nz3]
            first | (focus (refine takeG 6 (v := ?_) rfl (by kernel_rfl) ?_ ?_ ?_; rotate_left; (focus (first | rfl | (go_simp <;> fail))); (focus (intro w hSw; clear hSw; go_simp; try with_reducible rfl)))) | (refine skipG 6 rfl (by kernel_rfl) ?_ ?_; (focus (first | rfl | (go_simp <;> fail))))
            try simp only [Act.put, nz1, nz2, nz3]
            first | (focus (refine takeG 7 (v := ?_) rfl (by kernel_rfl) ?_ ?_ ?_; rotate_left; (focus (first | rfl | (go_simp <;> fail))); (focus (intro w hSw; clear hSw; go_simp; try with_reducible rfl)))) | (refine skipG 7 rfl (by kernel_rfl) ?_ ?_; (focus (first | rfl | (go_simp <;> fail))))
            try simp only [Act.put, nz1, nz2, nz3]
            first | (focus (refine takeG 8 (v := ?_) rfl (by kernel_rfl) ?_ ?_ ?_; rotate_left; (focus (first | rfl | (go_simp <;> fail))); (focus (intro w hSw; clear hSw; go_simp; try with_reducible rfl)))) | (refine skipG 8 rfl (by kernel_rfl) ?_ ?_; (focus (first | rfl | (go_simp <;> fail))))
            try simp only [Act.put, nz1, nz2, nz3]
            first | (focus (refine takeG 9 (v := ?_) rfl (by kernel_rfl) ?_ ?_ ?_; rotate_left; (focus (first | rfl | (go_simp <;> fail))); (focus (intro w hSw; clear hSw; go_simp; try with_reducible rfl)))) | (refine skipG 9 rfl (by kernel_rfl) ?_ ?_; (focus (first | rfl | (go_simp <;> fail))))
            try simp only [Act.put, nz1, nz2, nz3]
            first | (focus (refine takeG 10 (v := ?_) rfl (by kernel_rfl) ?_ ?_ ?_; rotate_left; (focus (first | rfl | (go_simp <;> fail))); (focus (intro w hSw; clear hSw; go_simp; try with_reducible rfl)))) | (refine skipG 10 rfl (by kernel_rfl) ?_ ?_; (focus (first | rfl | (go_simp <;> fail))))
            try simp only [Act.put, nz1, nz2, nz3]
            first | (focus (refine takeG 11 (v := ?_) rfl (by kernel_rfl) ?_ ?_ ?_; rotate_left; (focus (first | rfl | (go_simp <;> fail))); (focus (intro w hSw; clear hSw; go_simp; try with_reducible rfl)))) | (refine skipG 11 rfl (by kernel_rfl) ?_ ?_; (focus (first | rfl | (go_simp <;> fail))))
            try simp only [Act.put, nz1, nz2, nz3]
            first | (focus (refine' takeG 12 rfl (by kernel_rfl) ?_ ?_ ?_; rotate_left; (focus (first | rfl | (go_simp <;> fail))); (focus (intro w hSw; refine' yield_loads rfl rowT30 rfl ?_ w hSw; (first | (apply FindsX.box; (· (repeat constructor)); (· (repeat constructor)); done) | (refine FindsX.mem (by assumption) ?_; first | rfl | assumption | (simp; done))))))) | (refine skipG 12 rfl (by kernel_rfl) ?_ ?_; (focus (first | rfl | (go_simp <;> fail))))
            try simp only [Act.put, nz1, nz2, nz3]
            first | (focus (refine' takeG 13 rfl (by kernel_rfl) ?_ ?_ ?_; rotate_left; (focus (first | rfl | (go_simp <;> fail))); (focus (intro w hSw; refine' yield_loads rfl rowT30 rfl ?_ w hSw; (first | (apply FindsX.box; (· (repeat constructor)); (· (repeat constructor)); done) | (refine FindsX.mem (by assumption) ?_; first | rfl | assumption | (simp; done))))))) | (refine skipG 13 rfl (by kernel_rfl) ?_ ?_; (focus (first | rfl | (go_simp <;> fail))))
            try simp only [Act.put, nz1, nz2, nz3]
            refine wpAnyH_ready (rs := [14]) (by kernel_rfl) (by simp) ?_
            refine consL 14 rfl (fun K hK => ?_) AllReadyH.nil
            rw [if_pos (by rfl)]; go_simp; refine (rless_v _ _ hS.inw _ _ _ _).mono ?_; rintro e' w42 ⟨_, m42, rfl, hv42, hk42⟩; replace hS := hS.grow (grownBy_of_below hk42.below); clear hk42; rw [HL.out] at hv42; subst hv42; go_wp2_with fail
            refine hK.out _ _ (by first | exact (hS.sx0.cons hS (by (repeat constructor))) | exact Sx.le (by assumption) (hS.sx0.cons hS (by (repeat constructor)))) (fun hHeld => ?_)
            clear hK K
            try simp only [Act.put, nz1, nz2, nz3]
            first | (focus (refine takeG 15 (v := ?_) rfl (by kernel_rfl) ?_ ?_ ?_; rotate_left; (focus (first | rfl | (go_simp <;> fail))); (focus (intro w hSw; clear hSw; go_simp; try with_reducible rfl)))) | (refine skipG 15 rfl (by kernel_rfl) ?_ ?_; (focus (first | rfl | (go_simp <;> fail))))
            try simp only [Act.put, nz1, nz2, nz3]
            focus (refine takeN 16 (v := ?_) rfl (by kernel_rfl) ?_ ?_; rotate_left; focus (intro w hSw; clear hSw; go_simp; try with_reducible rfl))
            try simp only [Act.put, nz1, nz2, nz3]
            refine wpAnyH_done (by kernel_rfl) ?_ _
            refine NoPanic.normal ?_
            all_goals
              go_wp2_with fail
              go_ret
              exact ⟨_, m, rfl, congrArg (Value.int .i64) hR.out.symm, hS.done⟩
          · have hN : Hid (xs[p + 1].id ∉ (xs.take (p + 1)).map Hit.id → PreR xs (p + 1 + 1)) := fun hn => hP.out.succ hlt hfine hn (fun _ => by rw [← s6]; exact hlt2)
            have HL : Hid (decide ((⟨xs[p / 2].dist, xs[p / 2].id⟩ : Hit).lt ⟨xs[p + 1].dist, xs[p + 1].id⟩) = false) := decide_eq_false hlt2
            clear s5 s6 hP hlt2 hxe hfine
            obtain ⟨xd, hxd⟩ : ∃ d, xs[p + 1].dist = d := ⟨_, rfl⟩
            obtain ⟨xid, hxi⟩ : ∃ d, xs[p + 1].id = d := ⟨_, rfl⟩
            rw [hxd, hxi] at HF HL hcx
            rw [hxi] at hN i2
            rw [hxd] at i1
            have HX := Lib.hid hxi
            clear hxd hxi
            generalize xs[p / 2] = y at *
            go_wp2_with (first 
    | ((with_reducible refine' Wl.out ?_; apply k_alloc (ty := 30) (dst := some 6) hS); (· exact .mk); clear hS; intro w6 b6 hS)
    | ((with_reducible refine' Wl.out ?_; apply k_alloc (ty := 30) (dst := some 8) hS); (· exact .mk); clear hS; intro w8 b8 hS)
    | ((with_reducible refine' Wl.out ?_; apply k_load hS); (· exact .mk))
    | ((with_reducible refine' Wl.out ?_; apply k_loads hS); (· exact .mk))
    | go_skip
    | ((with_reducible refine' Wl.out ?_; apply kg_load hS); iterate 2 (· exact .mk))
    | ((with_reducible refine' Wl.out ?_; apply kg_loads hS); iterate 2 (· exact .mk))
    | ((with_reducible refine' Wl.out ?_; refine' wg_case ?_ ?_) <;> (intro hgW; (try (have hg2 := hgW; simp [go_sem] at hg2)); (first | (exfalso; assumption) | ((with_reducible refine' Wl.out ?_; apply k_no hgW)) | ((with_reducible refine' Wl.out ?_; apply kg_load hS ⟨hgW⟩); (· exact .mk)) | ((with_reducible refine' Wl.out ?_; apply kg_loads hS ⟨hgW⟩); (· exact .mk))); clear hgW))
    | ((with_reducible refine' Wl.out ?_; apply k_stores hS); (· exact .mk); clear hS; intro ws hS))
            replace hS := hS.drew
            refine startL (S := Sx _ [(b6, _)]) (by kernel_rfl) (hS.sx0.cons hS (by (repeat constructor))) (fun _ _ _ _ => trivial) (fun hHeld => ?_)
            refine takeN 0 rfl (by kernel_rfl) (yield_loads rfl rowT30 rfl (by (first | (apply FindsX.box; (· (repeat constructor)); (· (repeat constructor)); done) | (refine FindsX.mem (by assumption) ?_; first | rfl | assumption | (simp; done))))) ?_
            try simp only [Act.put, nz1, nz2, nz3]
            refine wpAnyH_ready (rs := [1]) (by kernel_rfl) (by simp) ?_
            refine consL 1 rfl (fun K hK => ?_) AllReadyH.nil
            rw [if_pos (by rfl)]; go_simp; refine (may_v _ _ hS.inw _ _).mono ?_; rintro e' w29 ⟨_, m29, rfl, hv29, hk29⟩; replace hS := hS.grow (grownBy_of_below hk29.below); clear hk29; rw [HF.out] at hv29; subst hv29; go_wp2_with fail
            refine hK.out _ _ (by first | exact (hS.sx0.cons hS (by (repeat constructor))) | exact Sx.le (by assumption) (hS.sx0.cons hS (by (repeat constructor)))) (fun hHeld => ?_)
            clear hK K
            try simp only [Act.put, nz1, nz2, nz3]
            focus (refine takeN 2 (v := ?_) rfl (by kernel_rfl) ?_ ?_; rotate_left; focus (intro w hSw; clear hSw; go_simp; try with_reducible rfl))
            try simp only [Act.put, nz1, nz2, nz3]
            focus (refine takeN 3 (v := ?_) rfl (by kernel_rfl) ?_ ?_; rotate_left; focus (intro w hSw; clear hSw; go_simp; try with_reducible rfl))
            try simp only [Act.put, nz1, nz2, nz3]
            first | (focus (refine takeG 4 (v := ?_) rfl (by kernel_rfl) ?_ ?_ ?_; rotate_left; (focus (first | rfl | (go_simp <;> fail))); (focus (intro w hSw; clear hSw; go_simp; try with_reducible rfl)))) | (refine skipG 4 rfl (by kernel_rfl) ?_ ?_; (focus (first | rfl | (go_simp <;> fail))))
            try simp only [Act.put, nz1, nz2, nz3]
            first | (focus (refine takeG 5 (v := ?_) rfl (by kernel_rfl) ?_ ?_ ?_; rotate_left; (focus (first | rfl | (go_simp <;> fail))); (focus (intro w hSw; clear hSw; go_simp; try with_reducible rfl)))) | (refine skipG 5 rfl (by kernel_rfl) ?_ ?_; (focus (first | rfl | (go_simp <;> fail))))
            try simp only [Act.put, nz1, nz2, nz3]
            first | (focus (refine takeG 6 (v := ?_) rfl (by kernel_rfl) ?_ ?_ ?_; rotate_left; (focus (first | rfl | (go_simp <;> fail))); (focus (intro w hSw; clear hSw; go_simp; try with_reducible rfl)))) | (refine skipG 6 rfl (by kernel_rfl) ?_ ?_; (focus (first | rfl | (go_simp <;> fail))))
            try simp only [Act.put, nz1, nz2, nz3]
            first | (focus (refine takeG 7 (v := ?_) rfl (by kernel_rfl) ?_ ?_ ?_; rotate_left; (focus (first | rfl | (go_simp <;> fail))); (focus (intro w hSw; clear hSw; go_simp; try with_reducible rfl)))) | (refine skipG 7 rfl (by kernel_rfl) ?_ ?_; (focus (first | rfl | (go_simp <;> fail))))
            try simp only [Act.put, nz1, nz2, nz3]
            first | (focus (refine takeG 8 (v := ?_) rfl (by kernel_rfl) ?_ ?_ ?_; rotate_left; (focus (first | rfl | (go_simp <;> fail))); (focus (intro w hSw; clear hSw; go_simp; try with_reducible rfl)))) | (refine skipG 8 rfl (by kernel_rfl) ?_ ?_; (focus (first | rfl | (go_simp <;> fail))))
            try simp only [Act.put, nz1, nz2, nz3]
            first | (focus (refine takeG 9 (v := ?_) rfl (by kernel_rfl) ?_ ?_ ?_; rotate_left; (focus (first | rfl | (go_simp <;> fail))); (focus (intro w hSw; clear hSw; go_simp; try with_reducible rfl)))) | (refine skipG 9 rfl (by kernel_rfl) ?_ ?_; (focus (first | rfl | (go_simp <;> fail))))
            try simp only [Act.put, nz1, nz2, nz3]
            first | (focus (refine takeG 10 (v := ?_) rfl (by kernel_rfl) ?_ ?_ ?_; rotate_left; (focus (first | rfl | (go_simp <;> fail))); (focus (intro w hSw; clear hSw; go_simp; try with_reducible rfl)))) | (refine skipG 10 rfl (by kernel_rfl) ?_ ?_; (focus (first | rfl | (go_simp <;> fail))))
            try simp only [Act.put, nz1, nz2, nz3]
            first | (focus (refine takeG 11 (v := ?_) rfl (by kernel_rfl) ?_ ?_ ?_; rotate_left; (focus (first | rfl | (go_simp <;> fail))); (focus (intro w hSw; clear hSw; go_simp; try with_reducible rfl)))) | (refine skipG 11 rfl (by kernel_rfl) ?_ ?_; (focus (first | rfl | (go_simp <;> fail))))
            try simp only [Act.put, nz1, nz2, nz3]
            first | (focus (refine' takeG 12 rfl (by kernel_rfl) ?_ ?_ ?_; rotate_left; (focus (first | rfl | (go_simp <;> fail))); (focus (intro w hSw; refine' yield_loads rfl rowT30 rfl ?_ w hSw; (first | (apply FindsX.box; (· (repeat constructor)); (· (repeat constructor)); done) | (refine FindsX.mem (by assumption) ?_; first | rfl | assumption | (simp; done))))))) | (refine skipG 12 rfl (by kernel_rfl) ?_ ?_; (focus (first | rfl | (go_simp <;> fail))))
            try simp only [Act.put, nz1, nz2, nz3]
            first | (focus (refine' takeG 13 rfl (by kernel_rfl) ?_ ?_ ?_; rotate_left; (focus (first | rfl | (go_simp <;> fail))); (focus (intro w hSw; refine' yield_loads rfl rowT30 rfl ?_ w hSw; (first | (apply FindsX.box; (· (repeat constructor)); (· (repeat constructor)); done) | (refine FindsX.mem (by assumption) ?_; first | rfl | assumption | (simp; done))))))) | (refine skipG 13 rfl (by kernel_rfl) ?_ ?_; (focus (first | rfl | (go_simp <;> fail))))
            try simp only [Act.put, nz1, nz2, nz3]
            refine wpAnyH_ready (rs := [14]) (by kernel_rfl) (by simp) ?_
            refine consL 14 rfl (fun K hK => ?_) AllReadyH.nil
            rw [if_pos (by rfl)]; go_simp; refine (rless_v _ _ hS.inw _ _ _ _).mono ?_; rintro e' w42 ⟨_, m42, rfl, hv42, hk42⟩; replace hS := hS.grow (grownBy_of_below hk42.below); clear hk42; rw [HL.out] at hv42; subst hv42; go_wp2_with fail
            refine hK.out _ _ (by first | exact (hS.sx0.cons hS (by (repeat constructor))) | exact Sx.le (by assumption) (hS.sx0.cons hS (by (repeat constructor)))) (fun hHeld => ?_)
            clear hK K
            try simp only [Act.put, nz1, nz2, nz3]
            first | (focus (refine takeG 15 (v := ?_) rfl (by kernel_rfl) ?_ ?_ ?_; rotate_left; (focus (first | rfl | (go_simp <;> fail))); (focus (intro w hSw; clear hSw; go_simp; try with_reducible rfl)))) | (refine skipG 15 rfl (by kernel_rfl) ?_ ?_; (focus (first | rfl | (go_simp <;> fail))))
            try simp only [Act.put, nz1, nz2, nz3]
            focus (refine takeN 16 (v := ?_) rfl (by kernel_rfl) ?_ ?_; rotate_left; focus (intro w hSw; clear hSw; go_simp; try with_reducible rfl))
            try simp only [Act.put, nz1, nz2, nz3]
            refine wpAnyH_done (by kernel_rfl) ?_ _
            refine NoPanic.normal ?_
            all_goals
              go_wp2_with (first 
    | ((with_reducible refine' Wl.out ?_; apply k_alloc (ty := 30) (dst := some 6) hS); (· exact .mk); clear hS; intro w6 b6 hS)
    | ((with_reducible refine' Wl.out ?_; apply k_alloc (ty := 30) (dst := some 8) hS); (· exact .mk); clear hS; intro w8 b8 hS)
    | ((with_reducible refine' Wl.out ?_; apply k_load hS); (· exact .mk))
    | ((with_reducible refine' Wl.out ?_; apply k_loads hS); (· exact .mk))
    | go_skip
    | ((with_reducible refine' Wl.out ?_; apply kg_load hS); iterate 2 (· exact .mk))
    | ((with_reducible refine' Wl.out ?_; apply kg_loads hS); iterate 2 (· exact .mk))
    | ((with_reducible refine' Wl.out ?_; refine' wg_case ?_ ?_) <;> (intro hgW; (try (have hg2 := hgW; simp [go_sem] at hg2)); (first | (exfalso; assumption) | ((with_reducible refine' Wl.out ?_; apply k_no hgW)) | ((with_reducible refine' Wl.out ?_; apply kg_load hS ⟨hgW⟩); (· exact .mk)) | ((with_reducible refine' Wl.out ?_; apply kg_loads hS ⟨hgW⟩); (· exact .mk))); clear hgW))
    | ((with_reducible refine' Wl.out ?_; apply k_stores hS); (· exact .mk); clear hS; intro ws hS))
              go_loopw [49] (fun j wr => ∃ j' : Nat, j' ≤ (p + 1) ∧ j = .int .i64 j' ∧ Hid (xid ∉ (xs.take j').map Hit.id) ∧ St [] w m wr [.box b6 [.int .i64 xd, .int .i64 xid]] m) (fun j _ => ((p + 1)) - (intOf j).toNat)
              case atStart => exact ⟨0, Nat.zero_le _, rfl, by show _ ∉ _; simp, hS⟩
              case round =>
                clear hS
                obtain ⟨j, hj, rfl, hno, hS⟩ := hrel
                by_cases hjk : j < (p + 1)
                · have hjl : j < xs.length := by omega
                  obtain ⟨b2, o2, cs, e2, hcs, hcell⟩ := HR.out.get j hjl
                  cases e2
                  obtain ⟨rfl, _, _⟩ := hitL_open hcs
                  have hcy : ∀ u v, [Value.int .i64 xs[j].dist, .int .i64 xs[j].id][u]? = some v → m ⟨bq, oq + j * 2 + u, none⟩ = some v := hcell
                  have hjz : (j : Int) < (((p + 1) : Nat) : Int) := by omega
                  by_cases he : xs[j].id = xid
                  · have hR : Hid (R = 1) := no2.out (not_nodup hlt (by rw [HX.out, ← he]; exact List.mem_map.2 ⟨xs[j], List.mem_iff_getElem.2 ⟨j, by simp; omega, by simp⟩, rfl⟩))
                    clear hcs hcell no1 no2 no3 yes HR HX hno
                    generalize xs[j] = y at *
                    go_wp2_with (first 
    | ((with_reducible refine' Wl.out ?_; apply k_alloc (ty := 30) (dst := some 6) hS); (· exact .mk); clear hS; intro w6 b6 hS)
    | ((with_reducible refine' Wl.out ?_; apply k_alloc (ty := 30) (dst := some 8) hS); (· exact .mk); clear hS; intro w8 b8 hS)
    | ((with_reducible refine' Wl.out ?_; apply k_load hS); (· exact .mk))
    | ((with_reducible refine' Wl.out ?_; apply k_loads hS); (· exact .mk))
    | go_skip
    | ((with_reducible refine' Wl.out ?_; apply kg_load hS); iterate 2 (· exact .mk))
    | ((with_reducible refine' Wl.out ?_; apply kg_loads hS); iterate 2 (· exact .mk))
    | ((with_reducible refine' Wl.out ?_; refine' wg_case ?_ ?_) <;> (intro hgW; (try (have hg2 := hgW; simp [go_sem] at hg2)); (first | (exfalso; assumption) | ((with_reducible refine' Wl.out ?_; apply k_no hgW)) | ((with_reducible refine' Wl.out ?_; apply kg_load hS ⟨hgW⟩); (· exact .mk)) | ((with_reducible refine' Wl.out ?_; apply kg_loads hS ⟨hgW⟩); (· exact .mk))); clear hgW))
    | ((with_reducible refine' Wl.out ?_; apply k_stores hS); (· exact .mk); clear hS; intro ws hS))
                    go_ret
                    exact ⟨_, m, rfl, congrArg (Value.int .i64) hR.out.symm, hS.done⟩
                  · have hN : Hid (xid ∉ (xs.take (j + 1)).map Hit.id) := by
                      show _ ∉ _
                      rw [List.take_succ_eq_append_getElem hjl, List.map_append, List.mem_append]
                      rintro (h | h)
                      · exact hno.out h
                      · simp at h; exact he h.symm
                    clear hcs hcell hno
                    generalize xs[j] = y at *
                    go_wp2_with (first 
    | ((with_reducible refine' Wl.out ?_; apply k_alloc (ty := 30) (dst := some 6) hS); (· exact .mk); clear hS; intro w6 b6 hS)
    | ((with_reducible refine' Wl.out ?_; apply k_alloc (ty := 30) (dst := some 8) hS); (· exact .mk); clear hS; intro w8 b8 hS)
    | ((with_reducible refine' Wl.out ?_; apply k_load hS); (· exact .mk))
    | ((with_reducible refine' Wl.out ?_; apply k_loads hS); (· exact .mk))
    | go_skip
    | ((with_reducible refine' Wl.out ?_; apply kg_load hS); iterate 2 (· exact .mk))
    | ((with_reducible refine' Wl.out ?_; apply kg_loads hS); iterate 2 (· exact .mk))
    | ((with_reducible refine' Wl.out ?_; refine' wg_case ?_ ?_) <;> (intro hgW; (try (have hg2 := hgW; simp [go_sem] at hg2)); (first | (exfalso; assumption) | ((with_reducible refine' Wl.out ?_; apply k_no hgW)) | ((with_reducible refine' Wl.out ?_; apply kg_load hS ⟨hgW⟩); (· exact .mk)) | ((with_reducible refine' Wl.out ?_; apply kg_loads hS ⟨hgW⟩); (· exact .mk))); clear hgW))
    | ((with_reducible refine' Wl.out ?_; apply k_stores hS); (· exact .mk); clear hS; intro ws hS))
                    go_roundw
                    case rel => exact ⟨j + 1, hjk, by go_num, hN, hS.forget (x := .box b8 _) (by (repeat constructor))⟩
                    case measure => (simp [intOf]; try omega)
                · obtain rfl : j = (p + 1) := by omega
                  have hN2 := Lib.hid (hN.out hno.out)
                  go_wp2_with fail
                  go_roundw
                  case rel => exact ⟨(p + 1) + 1, hlt, by go_num, hN2, hS.done⟩
                  case measure => (simp [intOf]; try omega)
      · have hR : Hid (R = 1) := no1.out (not_fine hlt hfine)
        have HF : Hid (decide (fineH ⟨xs[k].dist, xs[k].id⟩) = false) := decide_eq_false hfine
        clear no1 no2 no3 yes HR hP hfine s5
        generalize xs[k] = x at *
        go_wp2_with (first 
    | ((with_reducible refine' Wl.out ?_; apply k_alloc (ty := 30) (dst := some 6) hS); (· exact .mk); clear hS; intro w6 b6 hS)
    | ((with_reducible refine' Wl.out ?_; apply k_alloc (ty := 30) (dst := some 8) hS); (· exact .mk); clear hS; intro w8 b8 hS)
    | ((with_reducible refine' Wl.out ?_; apply k_load hS); (· exact .mk))
    | ((with_reducible refine' Wl.out ?_; apply k_loads hS); (· exact .mk))
    | go_skip
    | ((with_reducible refine' Wl.out ?_; apply kg_load hS); iterate 2 (· exact .mk))
    | ((with_reducible refine' Wl.out ?_; apply kg_loads hS); iterate 2 (· exact .mk))
    | ((with_reducible refine' Wl.out ?_; refine' wg_case ?_ ?_) <;> (intro hgW; (try (have hg2 := hgW; simp [go_sem] at hg2)); (first | (exfalso; assumption) | ((with_reducible refine' Wl.out ?_; apply k_no hgW)) | ((with_reducible refine' Wl.out ?_; apply kg_load hS ⟨hgW⟩); (· exact .mk)) | ((with_reducible refine' Wl.out ?_; apply kg_loads hS ⟨hgW⟩); (· exact .mk))); clear hgW))
    | ((with_reducible refine' Wl.out ?_; apply k_stores hS); (· exact .mk); clear hS; intro ws hS))
        replace hS := hS.drew
        refine startL (S := Sx _ [(b6, _)]) (by kernel_rfl) (hS.sx0.cons hS (by (repeat constructor))) (fun _ _ _ _ => trivial) (fun hHeld => ?_)
        refine takeN 0 rfl (by kernel_rfl) (yield_loads rfl rowT30 rfl (by (first | (apply FindsX.box; (· (repeat constructor)); (· (repeat constructor)); done) | (refine FindsX.mem (by assumption) ?_; first | rfl | assumption | (simp; done))))) ?_
        try simp only [Act.put, nz1, nz2, nz3]
        refine wpAnyH_ready (rs := [1]) (by kernel_rfl) (by simp) ?_
        refine consL 1 rfl (fun K hK => ?_) AllReadyH.nil
        rw [if_pos (by rfl)]; go_simp; refine (may_v _ _ hS.inw _ _).mono ?_; rintro e' w29 ⟨_, m29, rfl, hv29, hk29⟩; replace hS := hS.grow (grownBy_of_below hk29.below); clear hk29; rw [HF.out] at hv29; subst hv29; go_wp2_with fail
        refine hK.out _ _ (by first | exact (hS.sx0.cons hS (by (repeat constructor))) | exact Sx.le (by assumption) (hS.sx0.cons hS (by (repeat constructor)))) (fun hHeld => ?_)
        clear hK K
        try simp only [Act.put, nz1, nz2, nz3]
        focus (refine takeN 2 (v := ?_) rfl (by kernel_rfl) ?_ ?_; rotate_left; focus (intro w hSw; clear hSw; go_simp; try with_reducible rfl))
        try simp only [Act.put, nz1, nz2, nz3]
        focus (refine takeN 3 (v := ?_) rfl (by kernel_rfl) ?_ ?_; rotate_left; focus (intro w hSw; clear hSw; go_simp; try with_reducible rfl))
        try simp only [Act.put, nz1, nz2, nz3]
        first | (focus (refine takeG 4 (v := ?_) rfl (by kernel_rfl) ?_ ?_ ?_; rotate_left; (focus (first | rfl | (go_simp <;> fail))); (focus (intro w hSw; clear hSw; go_simp; try with_reducible rfl)))) | (refine skipG 4 rfl (by kernel_rfl) ?_ ?_; (focus (first | rfl | (go_simp <;> fail))))
        try simp only [Act.put, nz1, nz2, nz3]
        first | (focus (refine takeG 5 (v := ?_) rfl (by kernel_rfl) ?_ ?_ ?_; rotate_left; (focus (first | rfl | (go_simp <;> fail))); (focus (intro w hSw; clear hSw; go_simp; try with_reducible rfl)))) | (refine skipG 5 rfl (by kernel_rfl) ?_ ?_; (focus (first | rfl | (go_simp <;> fail))))
        try simp only [Act.put, nz1, nz2, nz3]
        first | (focus (refine takeG 6 (v := ?_) rfl (by kernel_rfl) ?_ ?_ ?_; rotate_left; (focus (first | rfl | (go_simp <;> fail))); (focus (intro w hSw; clear hSw; go_simp; try with_reducible rfl)))) | (refine skipG 6 rfl (by kernel_rfl) ?_ ?_; (focus (first | rfl | (go_simp <;> fail))))
        try simp only [Act.put, nz1, nz2, nz3]
        first | (focus (refine takeG 7 (v := ?_) rfl (by kernel_rfl) ?_ ?_ ?_; rotate_left; (focus (first | rfl | (go_simp <;> fail))); (focus (intro w hSw; clear hSw; go_simp; try with_reducible rfl)))) | (refine skipG 7 rfl (by kernel_rfl) ?_ ?_; (focus (first | rfl | (go_simp <;> fail))))
        try simp only [Act.put, nz1, nz2, nz3]
        first | (focus (refine takeG 8 (v := ?_) rfl (by kernel_rfl) ?_ ?_ ?_; rotate_left; (focus (first | rfl | (go_simp <;> fail))); (focus (intro w hSw; clear hSw; go_simp; try with_reducible rfl)))) | (refine skipG 8 rfl (by kernel_rfl) ?_ ?_; (focus (first | rfl | (go_simp <;> fail))))
        try simp only [Act.put, nz1, nz2, nz3]
        first | (focus (refine takeG 9 (v := ?_) rfl (by kernel_rfl) ?_ ?_ ?_; rotate_left; (focus (first | rfl | (go_simp <;> fail))); (focus (intro w hSw; clear hSw; go_simp; try with_reducible rfl)))) | (refine skipG 9 rfl (by kernel_rfl) ?_ ?_; (focus (first | rfl | (go_simp <;> fail))))
        try simp only [Act.put, nz1, nz2, nz3]
        first | (focus (refine takeG 10 (v := ?_) rfl (by kernel_rfl) ?_ ?_ ?_; rotate_left; (focus (first | rfl | (go_simp <;> fail))); (focus (intro w hSw; clear hSw; go_simp; try with_reducible rfl)))) | (refine skipG 10 rfl (by kernel_rfl) ?_ ?_; (focus (first | rfl | (go_simp <;> fail))))
        try simp only [Act.put, nz1, nz2, nz3]
        first | (focus (refine takeG 11 (v := ?_) rfl (by kernel_rfl) ?_ ?_ ?_; rotate_left; (focus (first | rfl | (go_simp <;> fail))); (focus (intro w hSw; clear hSw; go_simp; try with_reducible rfl)))) | (refine skipG 11 rfl (by kernel_rfl) ?_ ?_; (focus (first | rfl | (go_simp <;> fail))))
        try simp only [Act.put, nz1, nz2, nz3]
        first | (focus (refine' takeG 13 rfl (by kernel_rfl) ?_ ?_ ?_; rotate_left; (focus (first | rfl | (go_simp <;> fail))); (focus (intro w hSw; refine' yield_loads rfl rowT30 rfl ?_ w hSw; (first | (apply FindsX.box; (· (repeat constructor)); (· (repeat constructor)); done) | (refine FindsX.mem (by assumption) ?_; first | rfl | assumption | (simp; done))))))) | (refine skipG 13 rfl (by kernel_rfl) ?_ ?_; (focus (first | rfl | (go_simp <;> fail))))
        try simp only [Act.put, nz1, nz2, nz3]
        refine wpAnyH_ready (rs := [12]) (by kernel_rfl) (by simp) ?_
        refine consL 12 rfl (fun K hK => ?_) AllReadyH.nil
        rw [if_neg (by exact Bool.false_ne_true)]
        refine hK.out _ _ (by first | exact (hS.sx0.cons hS (by (repeat constructor))) | exact Sx.le (by assumption) (hS.sx0.cons hS (by (repeat constructor)))) (fun hHeld => ?_)
        clear hK K
        try simp only [Act.put, nz1, nz2, nz3]
        refine wpAnyH_ready (rs := [14]) (by kernel_rfl) (by simp) ?_
        refine consL 14 rfl (fun K hK => ?_) AllReadyH.nil
        rw [if_neg (by exact Bool.false_ne_true)]
        refine hK.out _ _ (by first | exact (hS.sx0.cons hS (by (repeat constructor))) | exact Sx.le (by assumption) (hS.sx0.cons hS (by (repeat constructor)))) (fun hHeld => ?_)
        clear hK K
        try simp only [Act.put, nz1, nz2, nz3]
        first | (focus (refine takeG 15 (v := ?_) rfl (by kernel_rfl) ?_ ?_ ?_; rotate_left; (focus (first | rfl | (go_simp <;> fail))); (focus (intro w hSw; clear hSw; go_simp; try with_reducible rfl)))) | (refine skipG 15 rfl (by kernel_rfl) ?_ ?_; (focus (first | rfl | (go_simp <;> fail))))
        try simp only [Act.put, nz1, nz2, nz3]
        focus (refine takeN 16 (v := ?_) rfl (by kernel_rfl) ?_ ?_; rotate_left; focus (intro w hSw; clear hSw; go_simp; try with_reducible rfl))
        try simp only [Act.put, nz1, nz2, nz3]
        refine wpAnyH_done (by kernel_rfl) ?_ _
        refine NoPanic.normal ?_
        all_goals
          go_wp2_with fail
          go_ret
          exact ⟨_, m, rfl, congrArg (Value.int .i64) hR.out.symm, hS.done⟩
    · obtain rfl : k = xs.length := by omega
      have hR := Lib.hid (yes.out hP.out)
      clear yes no1 no2 no3
      go_wp2
      go_ret
      exact ⟨_, m, rfl, congrArg (Value.int .i64) hR.out.symm, hS.done⟩
end Go.Proofs.Ytlkdjmpkapeppaa
/- How the arguments of a law are opened: by layouts. -/
namespace Go.Proofs.Ytlkdjmpkapeppaa
set_option linter.unusedVariables false
set_option linter.unusedSimpArgs false
open Go.RowKit Go.ChangeShapes Go.WideShapes
/-- What comes in at the type t is read by L. -/
def Opens {α : Type} (P : Program) (L : Lay α) (t : TypeId) : Prop := ∀ (H : Type) (enc : TypeId × Value → H) (W : World) (sp : Nat → Bool) (hd : Bool) (fuel : Nat) (cs : List Value) (d : DataW H) (ps : List MemPlace),
  DataW.trod enc P W 0 sp hd fuel t cs = some (d, ps) → (∀ n ∈ d.weights P t, n ≤ reachBytes) → ∃ x, L.rd (World.mem W) cs x
theorem wf_inK {k : IntKind} {n : Int} (h : (Lit.int k n).wf = true) : InK k n := by
  simp [Lit.wf] at h
  exact h
theorem Opens.int {P : Program} {t : TypeId} {k : IntKind} (ht : P.underlying t = some (.int k)) : Opens P (Lay.int k) t := by
  intro H enc W sp hd fuel cs d ps h _
  cases fuel with
  | zero => cases h
  | succ fuel =>
    unfold DataW.trod at h
    rw [ht] at h
    match cs, h with
    | [.int k' n], h =>
      simp only at h
      split at h
      · rename_i hk
        obtain ⟨rfl, hw⟩ := hk
        exact ⟨n, rfl, wf_inK hw⟩
      · cases h
theorem Opens.bool {P : Program} {t : TypeId} (ht : P.underlying t = some .bool) : Opens P Lay.bool t := by
  intro H enc W sp hd fuel cs d ps h _
  cases fuel with
  | zero => cases h
  | succ fuel =>
    unfold DataW.trod at h
    rw [ht] at h
    match cs, h with
    | [.bool b], h => exact ⟨b, rfl⟩
theorem weightsAll_mem {H : Type} {P : Program} {e : TypeId} : ∀ {l : List (DataW H)} {d : DataW H}, d ∈ l → ∀ n ∈ d.weights P e, n ∈ DataW.weightsAll P e l
  | x :: l, d, h, n, hn => by
    simp only [DataW.weightsAll, List.mem_append]
    rcases List.mem_cons.1 h with rfl | h
    · exact .inl hn
    · exact .inr (weightsAll_mem h n hn)
theorem Opens.list {α : Type} {P : Program} {L : Lay α} {t e : TypeId} (ht : P.underlying t = some (.slice e)) (he : Opens P L e) (hc : P.cellsOf e = L.n) (hb : P.bytesOf e = L.bytes) (h0 : 0 < L.n) : Opens P L.list t := by
  intro H enc W sp hd fuel cs d ps h hw
  rcases Go.Deep.open_slice ht h with ⟨rfl, _⟩ | ⟨a, len, cap, m, n, D, Pl, rfl, _, hl, hm, hmm, hx, hel⟩
  · exact ⟨[], Lay.nil_rd _ _⟩
  · obtain ⟨rfl, rfl⟩ := Prod.mk.inj hx
    have hlm : len ≤ m := by rw [hmm]; split <;> omega
    have hwt : (len + (m - len)) * P.bytesOf e ≤ reachBytes := by
      refine hw _ ?_
      simp [DataW.weights, ht]
    have hex : ∀ i : Fin len, ∃ x, ∃ cs', L.rd (World.mem W) cs' x ∧ ∀ j v, cs'[j]? = some v → W.cell? ((a.add (i.1 * L.n)).add j) = some v := by
      intro i
      obtain ⟨cs', h1, h2⟩ := hel i.1 (by have := i.2; omega)
      obtain ⟨x, hx⟩ := he H enc W sp hd n cs' (D i.1) (Pl i.1) h2 (fun k hk => hw k (by
        simp only [DataW.weights, ht, List.mem_cons, List.mem_append]
        exact .inr (.inl (weightsAll_mem (List.mem_map.2 ⟨i.1, by simp, rfl⟩) k hk))))
      obtain ⟨_, hlen, hcell⟩ := World.cells?_some h1
      refine ⟨x, cs', hx, fun j v hj => ?_⟩
      have hjl := (List.getElem?_eq_some_iff.1 hj).1
      have := hcell j (by omega)
      rw [hj, hc] at this
      exact this
    obtain ⟨f, hf⟩ := Classical.axiomOfChoice hex
    have hlen : (List.ofFn f).length = len := by simp
    refine ⟨List.ofFn f, some a, cap, by rw [hlen], by rw [hlen]; exact hl, hm, ?_, ?_⟩
    · rw [hlen, ← hb]
      have : len * P.bytesOf e ≤ (len + (m - len)) * P.bytesOf e := Nat.mul_le_mul_right _ (by omega)
      simp only [reachBytes] at hwt
      omega
    · intro hpos
      obtain ⟨cs0, hr0, hc0⟩ := hf ⟨0, by omega⟩
      obtain ⟨b, o, sp'⟩ := a
      obtain rfl : sp' = none := by
        have hl0 := L.len hr0
        simpa [Addr.add] using World.cell?_spot (hc0 0 cs0[0] (List.getElem?_eq_getElem (by omega)))
      refine ⟨b, o, rfl, fun i x hx => ?_⟩
      have hi : i < len := by have := (List.getElem?_eq_some_iff.1 hx).1; omega
      obtain ⟨cs', h1, h2⟩ := hf ⟨i, hi⟩
      have e1 : x = f ⟨i, hi⟩ := by
        have := (List.getElem?_eq_some_iff.1 hx).2
        rw [← this]; simp
      rw [e1]
      refine ⟨cs', h1, fun j v hj => ?_⟩
      have := h2 j v hj
      rw [Addr.add_lit, Addr.add_lit] at this
      exact this
theorem weights_of {H : Type} {P : Program} {ts : List TypeId} {ds : List (DataW H)} {j : Nat} {t : TypeId} {d : DataW H} (hsz : (DataW.weightsEach P ts ds).all (· ≤ reachBytes) = true) (ht : ts[j]? = some t) (hd : ds[j]? = some d) : ∀ n ∈ d.weights P t, n ≤ reachBytes :=
  fun n hn => by simpa using List.all_eq_true.1 hsz n (DataW.weights_mem_each ht hd n hn)
end Go.Proofs.Ytlkdjmpkapeppaa
/- How the arguments of a law are opened: hits. -/
namespace Go.Proofs.Ytlkdjmpkapeppaa
set_option linter.unusedVariables false
set_option linter.unusedSimpArgs false
open Go.RowKit Go.ChangeShapes Go.WideShapes
set_option maxRecDepth 100000 in
theorem opens_hit : Opens Try.prog hitL 30 := by
  intro H enc W sp hd fuel cs d ps h hw
  obtain ⟨y0, y1, n, hx, hl, h0, h1⟩ := trod_struct2 Try.underlying30 h
  obtain ⟨rfl, rfl⟩ := Prod.mk.inj hx
  have hl2 : cs.length = 2 := hl
  match cs, hl2 with
  | [c0, c1], _ =>
    obtain ⟨x0, g0⟩ := Opens.int (k := .i64) Try.underlying2 H enc W sp hd n [c0] y0.1 y0.2 h0 (fun k hk => hw k (by simp [DataW.weights, Try.underlying30, DataW.weightsEach]; exact .inl hk))
    obtain ⟨x1, g1⟩ := Opens.int (k := .i64) Try.underlying2 H enc W sp hd n [c1] y1.1 y1.2 h1 (fun k hk => hw k (by simp [DataW.weights, Try.underlying30, DataW.weightsEach]; exact .inr hk))
    exact ⟨⟨x0, x1⟩, [c0], [c1], rfl, g0, g1⟩
set_option maxRecDepth 100000 in
/-- A hit comes in. -/
theorem openHit {H : Type} {enc : TypeId × Value → H} {W : World} {sp : Nat → Bool} {hd : Bool} {v : Value} {d : DataW H} {ps : List MemPlace} {r : Reach} {b0 : Nat} (hv : Value.okWide Try.prog W r b0 30 v) (h : DataW.Trod enc Try.prog W 0 sp hd 30 v d ps) (hw : ∀ n ∈ d.weights Try.prog 30, n ≤ reachBytes) :
    ∃ x : Hit, v = .agg #[.int .i64 x.dist, .int .i64 x.id] ∧ InK .i64 x.dist ∧ InK .i64 x.id := by
  obtain ⟨v0, v1, y0, y1, n, rfl, rfl, rfl, h0, h1⟩ := Go.Joins.open_agg2 Try.underlying30 (by kernel_rfl) (by kernel_rfl) hv h
  obtain ⟨x0, e0, k0⟩ := Opens.int (k := .i64) Try.underlying2 H enc W sp hd n [v0] y0.1 y0.2 h0 (fun k hk => hw k (by simp [DataW.weights, Try.underlying30, DataW.weightsEach]; exact .inl hk))
  obtain ⟨x1, e1, k1⟩ := Opens.int (k := .i64) Try.underlying2 H enc W sp hd n [v1] y1.1 y1.2 h1 (fun k hk => hw k (by simp [DataW.weights, Try.underlying30, DataW.weightsEach]; exact .inr hk))
  cases e0
  cases e1
  exact ⟨⟨x0, x1⟩, rfl, k0, k1⟩
set_option maxRecDepth 100000 in
/-- Hits come in. -/
theorem openSlHit {H : Type} {enc : TypeId × Value → H} {W : World} {sp : Nat → Bool} {hd : Bool} {v : Value} {d : DataW H} {ps : List MemPlace} {r : Reach} {b0 : Nat} (hv : Value.okWide Try.prog W r b0 24 v) (h : DataW.Trod enc Try.prog W 0 sp hd 24 v d ps) (hw : ∀ n ∈ d.weights Try.prog 24, n ≤ reachBytes) : ∃ x, hitL.list.rd (World.mem W) [v] x := by
  obtain ⟨a, len, cap, rfl⟩ := Go.WideShapes.okWide_slice Try.underlying24 hv
  obtain ⟨fuel, hf⟩ := h
  exact Opens.list (L := hitL) Try.underlying24 opens_hit (by kernel_rfl) (by kernel_rfl) (by decide) H enc W sp hd fuel _ d ps (by simpa [Value.cells] using hf) hw
end Go.Proofs.Ytlkdjmpkapeppaa
/- How the arguments of a law are opened: vectors, slots. -/
namespace Go.Proofs.Ytlkdjmpkapeppaa
set_option linter.unusedVariables false
set_option linter.unusedSimpArgs false
open Go.RowKit Go.ChangeShapes Go.WideShapes
theorem opens_vec : Opens Try.prog vecL 50 := Opens.list (L := Lay.int .i16) Try.underlying50 (Opens.int Try.underlying77) (by kernel_rfl) (by kernel_rfl) (by decide)
set_option maxRecDepth 100000 in
/-- A vector comes in. -/
theorem openVec {H : Type} {enc : TypeId × Value → H} {W : World} {sp : Nat → Bool} {hd : Bool} {v : Value} {d : DataW H} {ps : List MemPlace} {r : Reach} {b0 : Nat} (hv : Value.okWide Try.prog W r b0 50 v) (h : DataW.Trod enc Try.prog W 0 sp hd 50 v d ps) (hw : ∀ n ∈ d.weights Try.prog 50, n ≤ reachBytes) : ∃ x, vecL.rd (World.mem W) [v] x := by
  obtain ⟨a, len, cap, rfl⟩ := Go.WideShapes.okWide_slice Try.underlying50 hv
  obtain ⟨fuel, hf⟩ := h
  exact opens_vec H enc W sp hd fuel _ d ps (by simpa [Value.cells] using hf) hw
set_option maxRecDepth 100000 in
/-- Slots come in. -/
theorem openSlots {H : Type} {enc : TypeId × Value → H} {W : World} {sp : Nat → Bool} {hd : Bool} {v : Value} {d : DataW H} {ps : List MemPlace} {r : Reach} {b0 : Nat} (hv : Value.okWide Try.prog W r b0 48 v) (h : DataW.Trod enc Try.prog W 0 sp hd 48 v d ps) (hw : ∀ n ∈ d.weights Try.prog 48, n ≤ reachBytes) :
    ∃ s : Sl, ∃ q1 c1 q2 c2, v = .agg #[.int .i64 s.dim, .slice q1 s.ids.length c1, .slice q2 s.vecs.length c2] ∧ slL.rd (World.mem W) [.int .i64 s.dim, .slice q1 s.ids.length c1, .slice q2 s.vecs.length c2] s := by
  obtain ⟨v0, v1, v2, y0, y1, y2, n, rfl, rfl, rfl, h0, h1, h2⟩ := Go.Joins.open_agg3 Try.underlying48 (by kernel_rfl) (by kernel_rfl) hv h
  obtain ⟨x0, g0⟩ := Opens.int (k := .i64) Try.underlying3 H enc W sp hd n [v0] y0.1 y0.2 h0 (fun k hk => hw k (by simp [DataW.weights, Try.underlying48, DataW.weightsEach]; exact .inl hk))
  obtain ⟨x1, g1⟩ := Opens.list (L := i64L) Try.underlying45 (Opens.int Try.underlying2) (by kernel_rfl) (by kernel_rfl) (by decide) H enc W sp hd n [v1] y1.1 y1.2 h1 (fun k hk => hw k (by simp [DataW.weights, Try.underlying48, DataW.weightsEach]; exact .inr (.inl hk)))
  obtain ⟨x2, g2⟩ := Opens.list (L := vecL) Try.underlying46 opens_vec (by kernel_rfl) (by kernel_rfl) (by decide) H enc W sp hd n [v2] y2.1 y2.2 h2 (fun k hk => hw k (by simp [DataW.weights, Try.underlying48, DataW.weightsEach]; exact .inr (.inr hk)))
  obtain ⟨e0, k0⟩ := g0
  cases e0
  obtain ⟨p1, c1, rfl, _⟩ := Lay.list_open g1
  obtain ⟨p2, c2, rfl, _⟩ := Lay.list_open g2
  exact ⟨⟨x0, x1, x2⟩, p1, c1, p2, c2, rfl, slL_mk (s := ⟨x0, x1, x2⟩) k0 g1 g2⟩
end Go.Proofs.Ytlkdjmpkapeppaa
/- How the arguments of a row are opened: slices of integers. -/
namespace Go.Proofs.Ytlkdjmpkapeppaa
set_option linter.unusedVariables false
set_option linter.unusedSimpArgs false
open Go.RowKit Go.ChangeShapes Go.WideShapes
theorem rd_opened {k : IntKind} {W : World} {x : Addr} {len cap : Nat} {zs : List Int} (hl : len ≤ cap) (hm : cap ≤ maxLen) (hz : zs.length = cap)
    (hc : ∀ i, i < zs.length → W.cell? (x.add i) = some (.int k (zs.getD i 0))) (hw : ∀ n ∈ zs, (Lit.int k n).wf = true) :
    ∃ xs : List Int, xs.length = len ∧ len ≤ cap ∧ cap ≤ maxLen ∧ Rd k W (some x) xs ∧ ∀ x ∈ xs, (Lit.int k x).wf = true := by
  refine ⟨zs.take len, by simp; omega, hl, hm, fun h0 => ?_, fun y hy => hw y (List.mem_of_mem_take hy)⟩
  simp at h0
  obtain ⟨b, o, s⟩ := x
  obtain rfl : s = none := by simpa [Addr.add] using World.cell?_spot (hc 0 (by omega))
  refine ⟨b, o, rfl, fun i hi => ?_⟩
  simp at hi
  rw [← Addr.add_lit, hc i (by omega)]
  simp [List.getD, List.getElem?_take, show i < len by omega]
theorem sized_rd {H : Type} {enc : TypeId × Value → H} {P : Program} {W : World} {base : Nat} {spare : Nat → Bool} {held : Bool} {t e : TypeId} {k : IntKind} {a : Option Addr} {len cap : Nat} {d : DataW H} {ps : List MemPlace} {ts : List TypeId} {ds : List (DataW H)} {j : Nat}
    (hsz : (DataW.weightsEach P ts ds).all (· ≤ reachBytes) = true) (ht : ts[j]? = some t) (hd : ds[j]? = some d) (hu : P.underlying t = some (.slice e)) (he : P.underlying e = some (.int k)) (hc : P.cellsOf e = 1) {B : Nat} (hB : P.bytesOf e = B)
    (h : DataW.Trod enc P W base spare held t (.slice a len cap) d ps) : len * B ≤ 140737488351232 := by
  obtain ⟨fuel, hf⟩ := h
  rcases open_ints hu he hc hf with ⟨hcs, _⟩ | ⟨x, l, c, zs, hcs, _, hl, _, hz, hx, _, _⟩
  · simp [Value.cells] at hcs
    obtain ⟨rfl, rfl, rfl⟩ := hcs
    simp
  · simp [Value.cells] at hcs
    obtain ⟨rfl, rfl, rfl⟩ := hcs
    obtain ⟨rfl, _⟩ := Prod.mk.inj hx
    have z := sized_slice hsz ht hd hu
    rw [hB] at z
    have h2 : len ≤ zs.length := by rw [hz]; split <;> omega
    have h1 : (lits (H := H) k (zs.take len)).length + (lits (H := H) k (zs.drop len)).length = zs.length := by simp [lits]; omega
    rw [h1] at z
    exact Nat.le_trans (Nat.mul_le_mul_right _ h2) z
theorem isB_of_wf {xs : List Int} (h : ∀ x ∈ xs, (Lit.int .u8 x).wf = true) : IsB xs := fun x hx => by
  have := h x hx
  simp [Lit.wf, IntKind.min, IntKind.max, IntKind.signed, IntKind.bits] at this
  omega
end Go.Proofs.Ytlkdjmpkapeppaa
/- All that the laws of layer 17 use. -/
