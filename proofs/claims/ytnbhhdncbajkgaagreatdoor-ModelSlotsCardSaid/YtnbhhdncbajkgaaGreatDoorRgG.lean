/- A range over a map of the call's own; make with a room alone. -/
import Derived.Test.YtnbhhdncbajkgaaGreatDoorG3
import Derived.Maps.OwnSet
import Derived.Maps.RangeWalk
namespace Go.Proofs.YtnbhhdncbajkgaaGreatDoor
set_option linter.unusedVariables false
set_option linter.unusedSimpArgs false
open Go.RowKit
open Go.Maps (Keyed)
def MapAt (E : Array MapEntry) (clock : Nat) : Obj → Prop := fun o => o = .map E clock
def IterAt (b since : Nat) (seen : Array Nat) (c0 : Nat) : Obj → Prop := fun o => o = .mapIter (some b) since seen c0
/-- A range stands at a map: whatever the world, where the two blocks are these. -/
def RngP (P : Program) (k e : TypeId) (b r n : Nat) (D : DataW Unit) (E : Array MapEntry) (clock since : Nat) (seen : Array Nat) (c0 : Nat) (left : Lit → Bool) (cnt : Nat) : Prop :=
  ∀ w : World, w.heap[b]? = some (.map E clock) → w.heap[r]? = some (.mapIter (some b) since seen c0) → w.ranges P k (plainElem P e) b r n D left cnt
section
variable {P : Program} {X : List Nat} {w0 w : World} {m0 m : Mem} {es : List Ent} {k e t : TypeId} {q r : IntKind} {b rb n cnt since clock c0 : Nat} {seen : Array Nat} {E : Array MapEntry} {D : DataW Unit} {left : Lit → Bool} {f : Int → Option Int}
theorem RngP.of (h : w.ranges P k (plainElem P e) b rb n D left cnt) : ∃ E clock since seen c0, w.heap[b]? = some (.map E clock) ∧ w.heap[rb]? = some (.mapIter (some b) since seen c0) ∧ RngP P k e b rb n D E clock since seen c0 left cnt := by
  obtain ⟨E, clock, since, seen, c0, hb, F, hs, hD, hr, r1, r2, r3, r4, r5, r6⟩ := h
  exact ⟨E, clock, since, seen, c0, hb, hr, fun w h1 h2 => ⟨E, clock, since, seen, c0, h1, F, hs, hD, h2, r1, r2, r3, r4, r5, r6⟩⟩
theorem St.objAt (hS : St X w0 m0 w es m) {p : Obj → Prop} (h : Ent.obj b p ∈ es) : ∃ o, w.heap[b]? = some o ∧ p o := (hS.has _ h).1
theorem RngP.at (hR : RngP P k e b rb n D E clock since seen c0 left cnt) (hS : St X w0 m0 w es m) (h1 : Ent.obj b (MapAt E clock) ∈ es) (h2 : Ent.obj rb (IterAt b since seen c0) ∈ es) : w.ranges P k (plainElem P e) b rb n D left cnt := by
  obtain ⟨o1, g1, rfl⟩ := hS.objAt h1
  obtain ⟨o2, g2, rfl⟩ := hS.objAt h2
  exact hR w g1 g2
theorem RngP.leftEq (hR : RngP P k e b rb n D E clock since seen c0 left cnt) (hS : St X w0 m0 w es m) (h1 : Ent.obj b (MapAt E clock) ∈ es) (h2 : Ent.obj rb (IterAt b since seen c0) ∈ es) : w.rangeLeft b rb = cnt := (hR.at hS h1 h2).left_eq
variable {ops : Array Oper} {o : Oper} {a : Act} {K : Act → World → Prop} {Q : Exit → Act → World → Prop}
theorem op_range (hS : St X w0 m0 w es m) (hT : MapT P t k e q r) {mp : Operand} (ho : o.op = .range t mp) (hm : a.eval mp = .map (some b)) {F : Array MapEntry → Nat → List Ent} (hU : ∀ E clock, UpdO es b (MapI P k e q r n f) (MapAt E clock) (F E clock))
    (h : ∀ w' rb E clock since seen c0 D cnt left, cnt ≤ n → (∀ x, (Lit.int q x).wf = true → left (.int q x) = (f x).isSome) → RngP P k e b rb n D E clock since seen c0 left cnt → St X w0 m0 w' (.obj rb (IterAt b since seen c0) :: F E clock) m → K (a.put o.dst (.pointer (some ⟨rb, 0, none⟩))) w') : o.wp P a w K Q := by
  obtain ⟨i, hi, _⟩ := (hU #[] 0).at
  obtain ⟨D, hown, hf⟩ := hS.mapOwn (List.mem_of_getElem? hi)
  obtain ⟨w', hrun, r1, r2, r3⟩ := hown.range (Maps.int_keyed hT.hk) hT.ht
  obtain ⟨E, clock, since, seen, c0, g1, g2, hR⟩ := RngP.of r1
  have hS1 := hS.add (.obj w.heap.size (IterAt b since seen c0)) r2 ⟨_, g2, rfl⟩ (fun b hb => by cases hb; exact Nat.le_refl _)
  have hS2 : St X w0 m0 w' (.obj w.heap.size (IterAt b since seen c0) :: F E clock) m := by
    obtain ⟨j, hj, hF⟩ := (hU E clock).at
    have := hS1.set (j + 1) (.obj b (MapI P k e q r n f)) (.obj b (MapAt E clock)) (by simpa using hj) ⟨rfl, rfl, rfl, Nat.le_refl _, fun i _ _ => rfl⟩ ⟨_, g1, rfl⟩ (fun _ h => .inl h)
    rw [hF]
    simpa using this
  unfold Oper.wp
  simp [execOp, ho, hm, hrun, Result.andThen]
  exact h w' _ E clock since seen c0 D _ (Maps.has D) hown.size_le (fun x hx => (hf x hx).1) hR hS2
theorem op_next (hS : St X w0 m0 w es m) (K' : Keyed P k) (hk : P.underlying k = some (.int q)) (he : P.underlying e = some (.int r)) {it : Operand} (ho : o.op = .next it false) (hit : a.eval it = .pointer (some ⟨rb, 0, none⟩)) (hR : RngP P k e b rb n D E clock since seen c0 left cnt) (hM : Ent.obj b (MapAt E clock) ∈ es)
    {F : Nat → Array Nat → Nat → List Ent} (hU : ∀ n s c, UpdO es rb (IterAt b since seen c0) (IterAt b n s c) (F n s c))
    (hDone : (∀ kl, left kl = false) → K (a.put o.dst (.tuple #[.bool false])) w)
    (hMore : ∀ x v w' since' seen' c0' cnt', (Lit.int q x).wf = true → left (.int q x) = true → cnt' < cnt → RngP P k e b rb n D E clock since' seen' c0' (fun z => left z && !z.sameKey (.int q x)) cnt' → (Instr.entry (.pointer (some ⟨rb, 0, none⟩))).run P w' = .ok (.tuple #[.int q x, v]) w' →
      St X w0 m0 w' (F since' seen' c0') m → K (a.put o.dst (.tuple #[.bool true, .int q x, v])) w') : o.wp P a w K Q := by
  obtain ⟨i, hi, _⟩ := (hU 0 #[] 0).at
  obtain ⟨o1, g1, rfl⟩ := hS.objAt hM
  obtain ⟨o2, g2, rfl⟩ := hS.objAt (List.mem_of_getElem? hi)
  have hr := hR w g1 g2
  have hne := hr.ne
  have hlt := hr.lt
  have hbl : b < w.heap.size := (Array.getElem?_eq_some_iff.1 g1).1
  unfold Oper.wp
  rcases hr.next K' o.type with ⟨h0, hl, hrun⟩ | ⟨key, v, kl, y, w', cnt', hkey, hlk, hv, hat, hrun, hrg, hlt', hgr, hsz, hen⟩
  · simp [execOp, ho, hit, hrun, Result.andThen]
    exact hDone hl
  · obtain ⟨x, rfl, rfl, hwx⟩ := Maps.keyOf_int_inv hk hkey
    obtain ⟨E', clock', since', seen', c0', k1, k2, hR'⟩ := RngP.of hrg
    have hb' : w'.heap[b]? = some (.map E clock) := (hgr.block b hbl (fun e => hne (by cases e; rfl))).trans g1
    rw [hb'] at k1
    cases k1
    obtain ⟨j, hj, hF⟩ := (hU since' seen' c0').at
    have hS2 := hS.set j _ (.obj rb (IterAt b since' seen' c0')) hj hgr ⟨_, k2, rfl⟩ (fun _ h => .inl h)
    simp [execOp, ho, hit, hrun, Result.andThen]
    exact hMore x v w' since' seen' c0' cnt' hwx hlk hlt' hR' hen (by rw [hF]; exact hS2)
theorem op_entry {it : Operand} {v : Value} (ho : o.op = .entry it) (hit : a.eval it = .pointer (some ⟨rb, 0, none⟩)) (hen : (Instr.entry (.pointer (some ⟨rb, 0, none⟩))).run P w = .ok v w) (h : K (a.put o.dst v) w) : o.wp P a w K Q := by
  unfold Oper.wp
  simp [execOp, ho, hit, hen, Result.andThen]
  exact h
theorem op_make0 (hS : St X w0 m0 w es m) {t e : TypeId} {size bytes : Nat} {z : Value} (hE : Elem P t e size bytes z) (l c : Operand) (ho : o.op = .makeSlice t l c) (n : Nat) {kl kc : IntKind} {xc : Int} (hl : a.eval l = .int kl 0) (hc : a.eval c = .int kc xc) (hc2 : xc = n) (hbytes : bytes * n ≤ 281474976710656) (h24 : n * size ≤ 16777216) (h63 : n ≤ maxLen)
    (h : ∀ w' b, St X w0 m0 w' (.row e size (.slice (some ⟨b, 0, none⟩) 0 n) 0 [] :: es) m → K (a.put o.dst (.slice (some ⟨b, 0, none⟩) 0 n)) w') : o.wp P a w K Q := by
  subst hc2
  obtain ⟨ti, ht1, ht2, ht3, ht4⟩ := hE.at
  obtain ⟨w', hrun, hown, hg⟩ := run_makeSlice_owned (P := P) w 0 t e ti z size hE.under ht1 ht2 ht3 kl kc n h24 (by rw [ht4]; exact hbytes) h63 (Nat.zero_le _)
  have hb : w.heap.size ≤ w.heap.size := Nat.le_refl _
  unfold Oper.wp execOp
  simp only [ho, hl, hc, Sem.run_bind, hrun, Result.andThen_ok, Sem.run_pure]
  exact h _ _ (hS.add _ hg hown (fun b hb => by simp [Ent.blk, Value.ownBlock] at hb; omega))
theorem op_lenI (hS : St X w0 m0 w es m) (hT : MapT P t k e q r) (mp : Operand) (ho : o.op = .call { callee := .builtin .len, args := #[mp], argTypes := #[t] })
    (hm : a.eval mp = .map (some b)) (hM : Ent.obj b (MapI P k e q r n f) ∈ es) (h : ∀ c : Nat, c ≤ n → K (a.put o.dst (.int .i64 c)) w) : o.wp P a w K Q := by
  obtain ⟨D, hown, _⟩ := hS.mapOwn hM
  have hrun := hown.len hT.ht o.type
  unfold Oper.wp
  simp [execOp, ho, resolve, invoke, builtin, hm, hrun, Result.andThen]
  exact h _ hown.size_le
variable {rest : List Oper} {dst : Option Tmp} {rt : TypeId} {pos : String} {af : Array Edge}
theorem wl_range (hS : St X w0 m0 w es m) (hT : MapT P t k e q r) {mp : Operand} (hm : a.eval mp = .map (some b)) {F : Array MapEntry → Nat → List Ent} (hU : ∀ E clock, UpdO es b (MapI P k e q r n f) (MapAt E clock) (F E clock))
    (h : ∀ w' rb E clock since seen c0 D cnt left, cnt ≤ n → (∀ x, (Lit.int q x).wf = true → left (.int q x) = (f x).isSome) → RngP P k e b rb n D E clock since seen c0 left cnt → St X w0 m0 w' (.obj rb (IterAt b since seen c0) :: F E clock) m → wpList P ops Q rest (a.put dst (.pointer (some ⟨rb, 0, none⟩))) w') :
    Wl P ops Q (⟨dst, .range t mp, rt, pos, af, none⟩ :: rest) a w :=
  ⟨wpList_plain rfl fun K hK => op_range hS hT rfl hm hU fun w' rb E clock since seen c0 D cnt left h1 h2 h3 h4 => hK _ _ (h w' rb E clock since seen c0 D cnt left h1 h2 h3 h4)⟩
theorem wl_next (hS : St X w0 m0 w es m) (K' : Keyed P k) (hk : P.underlying k = some (.int q)) (he : P.underlying e = some (.int r)) {it : Operand} (hit : a.eval it = .pointer (some ⟨rb, 0, none⟩)) (hR : RngP P k e b rb n D E clock since seen c0 left cnt) (hM : Ent.obj b (MapAt E clock) ∈ es)
    {F : Nat → Array Nat → Nat → List Ent} (hU : ∀ n s c, UpdO es rb (IterAt b since seen c0) (IterAt b n s c) (F n s c))
    (hDone : Hid (∀ kl, left kl = false) → wpList P ops Q rest (a.put dst (.tuple #[.bool false])) w)
    (hMore : ∀ x v w' since' seen' c0' cnt', Hid ((Lit.int q x).wf = true) → Hid (left (.int q x) = true) → cnt' < cnt → Hid (RngP P k e b rb n D E clock since' seen' c0' (fun z => left z && !z.sameKey (.int q x)) cnt') → Hid ((Instr.entry (.pointer (some ⟨rb, 0, none⟩))).run P w' = .ok (.tuple #[.int q x, v]) w') →
      St X w0 m0 w' (F since' seen' c0') m → wpList P ops Q rest (a.put dst (.tuple #[.bool true, .int q x, v])) w') :
    Wl P ops Q (⟨dst, .next it false, rt, pos, af, none⟩ :: rest) a w :=
  ⟨wpList_plain rfl fun K hK => op_next hS K' hk he rfl hit hR hM hU (fun h => hK _ _ (hDone h)) fun x v w' s1 s2 s3 s4 h1 h2 h3 h4 h5 h6 => hK _ _ (hMore x v w' s1 s2 s3 s4 h1 h2 h3 h4 h5 h6)⟩
theorem wl_entry {it : Operand} {v : Value} (hit : a.eval it = .pointer (some ⟨rb, 0, none⟩)) (hen : (Instr.entry (.pointer (some ⟨rb, 0, none⟩))).run P w = .ok v w) (h : wpList P ops Q rest (a.put dst v) w) : Wl P ops Q (⟨dst, .entry it, rt, pos, af, none⟩ :: rest) a w :=
  ⟨wpList_plain rfl fun K hK => op_entry rfl hit hen (hK _ _ h)⟩
theorem wl_make0 {t e : TypeId} {size bytes : Nat} {z : Value} (hE : Elem P t e size bytes z) {l c : Operand} (n : Nat) (hS : St X w0 m0 w es m) {kl kc : IntKind} {xc : Int} (hl : a.eval l = .int kl 0) (hc : a.eval c = .int kc xc) (hc2 : xc = n) (hbytes : bytes * n ≤ 281474976710656) (h24 : n * size ≤ 16777216) (h63 : n ≤ maxLen)
    (h : ∀ w' b, St X w0 m0 w' (.row e size (.slice (some ⟨b, 0, none⟩) 0 n) 0 [] :: es) m → wpList P ops Q rest (a.put dst (.slice (some ⟨b, 0, none⟩) 0 n)) w') : Wl P ops Q (⟨dst, .makeSlice t l c, rt, pos, af, none⟩ :: rest) a w :=
  ⟨wpList_plain rfl fun K hK => op_make0 hS hE l c rfl n hl hc hc2 hbytes h24 h63 fun w' b hw => hK _ _ (h w' b hw)⟩
theorem wl_lenI (hS : St X w0 m0 w es m) (hT : MapT P t k e q r) {mp : Operand} (hm : a.eval mp = .map (some b)) (hM : Ent.obj b (MapI P k e q r n f) ∈ es) (h : ∀ c : Nat, c ≤ n → wpList P ops Q rest (a.put dst (.int .i64 c)) w) : Wl P ops Q (⟨dst, .call { callee := .builtin .len, args := #[mp], argTypes := #[t] }, rt, pos, af, none⟩ :: rest) a w :=
  ⟨wpList_plain rfl fun K hK => op_lenI hS hT mp rfl hm hM fun c hc => hK _ _ (h c hc)⟩
end
end Go.Proofs.YtnbhhdncbajkgaaGreatDoor
