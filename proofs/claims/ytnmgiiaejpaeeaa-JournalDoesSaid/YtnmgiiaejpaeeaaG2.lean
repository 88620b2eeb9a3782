/- Contracts and plain laws that the laws' proofs use, laid together (part 2). -/
import Derived.Test.YtnmgiiaejpaeeaaG1
import Derived.Test.YtnmgiiaejpaeeaaDk3
import Derived.Shelf.Abstract
/- The rules of a walk: copy into a row of the call's own; parts of what is read. -/
namespace Go.Proofs.Ytnmgiiaejpaeeaa
set_option linter.unusedVariables false
set_option linter.unusedSimpArgs false
open Go.RowKit
variable {ops : Array Oper} {P : Program} {X : List Nat} {w0 w : World} {m0 m : Mem} {es : List Ent} {o : Oper} {a : Act} {K : Act → World → Prop} {Q : Exit → Act → World → Prop}
theorem op_copyR (hS : St X w0 m0 w es m) (d s : Operand) (dT sT : TypeId) (ho : o.op = .call { callee := .builtin .copy, args := #[d, s], argTypes := #[dT, sT] }) {elem t : TypeId} (hu : P.underlying dT = some (.slice elem)) (hsz : (P.info? elem).map (·.size) = some 1)
    {k : IntKind} {dry xs : List Int} {g cd off n dLen dCap : Nat} {sv : Value} {f : Value → Nat → List Value → List Ent} (hd : a.eval d = .slice (some ⟨g, off, none⟩) dLen dCap) (hi : RowAt es t 1 (.slice (some ⟨g, 0, none⟩) n cd) n (dry.map (.int k)) f) (hn : dry.length = n)
    (hs : a.eval s = sv) (hr : (Lay.int k).list.rd m [sv] xs) (hx : xs.length ≤ dLen) (hfit : off + dLen ≤ n)
    (h : ∀ w', St X w0 m0 w' (f (.slice (some ⟨g, 0, none⟩) n cd) n ((splice dry off xs).map (.int k))) m → K (a.put o.dst (.int .i64 xs.length)) w') : o.wp P a w K Q := by
  subst hn
  obtain ⟨i, hi1, hf⟩ := hi.at
  obtain ⟨p, c, e1, r1, r2, r3, r4⟩ := hr
  cases e1
  have hown : Own k t w 0 (.slice (some ⟨g, 0, none⟩) dry.length cd) dry := hS.row i hi1
  obtain ⟨w', hrun, h1, h2⟩ := run_copy_own (P := P) w dT sT o.type elem t hu hsz 0 g off dry.length cd dLen dCap k dry hown p xs c (r4.rdInt hS.inw) hx hfit
  have hk := h w' (by
    rw [hf]
    refine hS.set i _ _ hi1 h2 ?_ (fun _ h => .inl h)
    have hl : (splice dry off xs).length = dry.length := length_splice _ _ _ (by omega)
    have := h1
    unfold Own at this
    rw [hl] at this
    exact this)
  unfold Oper.wp
  simp only [execOp, ho, resolve, invoke, builtin, hd, hs]
  simp [hd, hs, hrun, Result.andThen]
  exact hk
theorem rdL_take {α : Type} {L : Lay α} {q : Option Addr} {len c : Nat} {xs : List α} (h : L.list.rd m [.slice q len c] xs) (n : Nat) (hn : n ≤ len) : L.list.rd m [.slice q n c] (xs.take n) := by
  obtain ⟨p, c', e, h1, h2, h3, h4⟩ := h
  cases e
  have hl : (xs.take n).length = n := by simp; omega
  refine ⟨q, c, by rw [hl], by omega, h2, ?_, fun h0 => ?_⟩
  · rw [hl]; exact Nat.le_trans (Nat.mul_le_mul_right _ hn) h3
  · obtain ⟨b, o, e, hc⟩ := h4 (by omega)
    refine ⟨b, o, e, fun i x hx => hc i x ?_⟩
    rw [List.getElem?_take] at hx
    split at hx
    · exact hx
    · cases hx
theorem rdL_part {α : Type} {L : Lay α} {b o len c : Nat} {xs : List α} (h : L.list.rd m [.slice (some ⟨b, o, none⟩) len c] xs) (i j : Nat) (hij : i ≤ j) (hj : j ≤ len) : L.list.rd m [.slice (some ⟨b, o + i * L.n, none⟩) (j - i) (c - i)] ((xs.take j).drop i) := by
  obtain ⟨p, c', e, h1, h2, h3, h4⟩ := h
  cases e
  have hl : ((xs.take j).drop i).length = j - i := by simp; omega
  refine ⟨_, c - i, by rw [hl], by omega, by omega, ?_, h4.part i j (by omega)⟩
  rw [hl]; exact Nat.le_trans (Nat.mul_le_mul_right _ (by omega)) h3
theorem row_head {e : TypeId} {size n c : Nat} {q : Option Addr} {xs : List Value} (h : w.ownsRow 0 e size (.slice q n c) n xs) (hn : 0 < n) : ∃ g, q = some ⟨g, 0, none⟩ ∧ n ≤ c ∧ c ≤ maxLen := by
  rcases h.2 with ⟨e1, e2⟩ | ⟨g, cap, cur, e1, _, _, h1, h2, _⟩
  · omega
  · cases e1; exact ⟨g, rfl, h1, h2⟩
theorem op_lit0 (hS : St X w0 m0 w es m) {t e : TypeId} {size bytes : Nat} {z : Value} (hE : Elem P t e size bytes z) (ho : o.op = .buildSlice t 0 #[])
    (h : ∀ w' b, St X w0 m0 w' (.row e size (.slice (some ⟨b, 0, none⟩) 0 0) 0 [] :: es) m → K (a.put o.dst (.slice (some ⟨b, 0, none⟩) 0 0)) w') : o.wp P a w K Q := by
  obtain ⟨ti, ht1, ht2, ht3, ht4⟩ := hE.at
  have hrun : (Instr.buildSlice t 0 #[]).run P w = .ok (.slice (some ⟨w.heap.size, 0, none⟩) 0 0) (w.alloc (.cells #[] e)) := by
    simp only [Instr.buildSlice, Sem.run_bind, run_underlying hE.under, Result.andThen_ok, sizeOf, typeInfo, zeroValue]
    have e1 : Array.range 0 = #[] := by decide
    simp [ht1, ht2, ht3, newRow, newObj, Sem.run_bind, Sem.run, Instr.fill, ← World.alloc_eq, e1]
  have e0 : ∀ g : Nat × Operand → Nat × Value, (Array.map g #[]) = #[] := fun g => by simp
  unfold Oper.wp execOp
  simp only [ho, Sem.run_bind, Result.andThen_ok, Sem.run_pure, e0, hrun]
  refine h _ _ (hS.add _ (grownBy_new _ _) (World.ownsRow_made w #[] 0 (Nat.zero_le _) (by simp [maxLen]) (by simp)) (fun b hb => ?_))
  simp [Ent.blk, Value.ownBlock] at hb
  omega
theorem ownsRow_set0 {w : World} {size n g c : Nat} {e : TypeId} {xs : List Value} (h : w.ownsRow 0 e size (.slice (some ⟨g, 0, none⟩) n c) n xs) (j : Nat) (v : Value) : (w.setCell ⟨g, j, none⟩ v).ownsRow 0 e size (.slice (some ⟨g, 0, none⟩) n c) n (xs.set j v) := by
  refine ⟨by rw [List.length_set]; exact h.1, ?_⟩
  rcases h.2 with ⟨e, _⟩ | ⟨g', cap, cur, e, hb, hg, h1, h2, h3, h4⟩
  · cases e
  · cases e
    refine .inr ⟨g, c, cur.setIfInBounds j v, rfl, hb, heap_setCell_same w g j cur _ v hg, h1, h2, by simpa using h3, ?_⟩
    rw [Array.toList_setIfInBounds, ← h4, List.take_set]
theorem op_storeR (hS : St X w0 m0 w es m) (ty : TypeId) (x y : Operand) (ho : o.op = .store ty x y) (hn : ∃ d, P.underlying ty = some d ∧ d.isRow = false ∧ (P.info? ty).map (·.size) = some 1) {g off : Nat} (hx : a.eval x = .pointer (some ⟨g, off, none⟩)) {v : Value} (hy : a.eval y = v) (h1 : v.oneCell' = true)
    {e : TypeId} {size n c : Nat} {xs : List Value} {f : Value → Nat → List Value → List Ent} (hi : RowAt es e size (.slice (some ⟨g, 0, none⟩) n c) n xs f) (hl : off < xs.length)
    (h : ∀ w', St X w0 m0 w' (f (.slice (some ⟨g, 0, none⟩) n c) n (xs.set off v)) m → K (a.put o.dst undef) w') : o.wp P a w K Q := by
  obtain ⟨d, _, _, hn⟩ := hn
  obtain ⟨i, hi1, hf⟩ := hi.at
  have hown := hS.row i hi1
  have hcell : w.cell? ⟨g, off, none⟩ = some xs[off] := by
    have := hown.cells (g := g) rfl off _ (List.getElem?_eq_getElem hl)
    rw [Addr.add_lit, Nat.zero_add] at this
    exact this
  have hfr : w.frozen? ⟨g, off, none⟩ = false := by
    rcases hown.2 with ⟨e, _⟩ | ⟨g', cap, cur, e, hb, hg, _⟩
    · cases e
    · cases e; exact frozen_of_row _ _ _ _ _ hg
  unfold Oper.wp execOp
  simp only [ho, hx, hy, Instr.storeAt, Instr.sureAddr, Sem.run_bind, Sem.run_pure, Result.andThen_ok, run_storeVar_one hcell hfr h1 hn]
  refine h _ ?_
  rw [hf]
  exact hS.set i _ _ hi1 (grownBy_setCell _ _ _) (ownsRow_set0 hown off v) (fun _ h => .inl h)
theorem op_make (hS : St X w0 m0 w es m) {t e : TypeId} {size bytes : Nat} {z : Value} (hE : Elem P t e size bytes z) (l c : Operand) (ho : o.op = .makeSlice t l c) (n : Nat) {kl kc : IntKind} {xl xc : Int} (hl : a.eval l = .int kl xl) (hc : a.eval c = .int kc xc) (hl2 : xl = n) (hc2 : xc = n) (hbytes : bytes * n ≤ 281474976710656) (h24 : n * size ≤ 16777216) (h63 : n ≤ maxLen)
    (h : ∀ w' b, St X w0 m0 w' (.row e size (.slice (some ⟨b, 0, none⟩) n n) n (madeCells z.cells (n * size)).toList :: es) m → K (a.put o.dst (.slice (some ⟨b, 0, none⟩) n n)) w') : o.wp P a w K Q := by
  subst hl2 hc2
  obtain ⟨ti, ht1, ht2, ht3, ht4⟩ := hE.at
  obtain ⟨w', hrun, hown, hg⟩ := run_makeSlice_full (P := P) w 0 t e ti z size hE.under ht1 ht2 ht3 kl kc n h24 (by rw [ht4]; exact hbytes) h63 (Nat.zero_le _)
  have hb : w.heap.size ≤ w.heap.size := Nat.le_refl _
  unfold Oper.wp execOp
  simp only [ho, hl, hc, Sem.run_bind, hrun, Result.andThen_ok, Sem.run_pure]
  exact h _ _ (hS.add _ hg hown (fun b hb => by simp [Ent.blk, Value.ownBlock] at hb; omega))
section
variable {rest : List Oper} {dst : Option Tmp} {rt : TypeId} {pos : String} {af : Array Edge} {E : Prop}
theorem s_copyR {d s : Operand} {dT sT elem t : TypeId} (hS : St X w0 m0 w es m) (hu : P.underlying dT = some (.slice elem)) (hsz : (P.info? elem).map (·.size) = some 1)
    {k : IntKind} {dry xs : List Int} {g cd off n dLen dCap : Nat} {sv : Value} {f : Value → Nat → List Value → List Ent} (hd : a.eval d = .slice (some ⟨g, off, none⟩) dLen dCap) (hi : RowAt es t 1 (.slice (some ⟨g, 0, none⟩) n cd) n (dry.map (.int k)) f) (hn : dry.length = n)
    (hs : a.eval s = sv) (hr : (Lay.int k).list.rd m [sv] xs) (hx : xs.length ≤ dLen) (hfit : off + dLen ≤ n)
    (h : ∀ w', St X w0 m0 w' (f (.slice (some ⟨g, 0, none⟩) n cd) n ((splice dry off xs).map (.int k))) m → K (a.put dst (.int .i64 xs.length)) w') : if Region.wanted ⟨dst, .call { callee := .builtin .copy, args := #[d, s], argTypes := #[dT, sT] }, rt, pos, af, none⟩ (yielded ops a.tmps) = true then Oper.wp P ⟨dst, .call { callee := .builtin .copy, args := #[d, s], argTypes := #[dT, sT] }, rt, pos, af, none⟩ a w K Q else E :=
  step_of rfl (op_copyR hS d s dT sT rfl hu hsz hd hi hn hs hr hx hfit h)
theorem l_copyR {d s : Operand} {dT sT elem t : TypeId} (hS : St X w0 m0 w es m) (hu : P.underlying dT = some (.slice elem)) (hsz : (P.info? elem).map (·.size) = some 1)
    {k : IntKind} {dry xs : List Int} {g cd off n dLen dCap : Nat} {sv : Value} {f : Value → Nat → List Value → List Ent} (hd : a.eval d = .slice (some ⟨g, off, none⟩) dLen dCap) (hi : RowAt es t 1 (.slice (some ⟨g, 0, none⟩) n cd) n (dry.map (.int k)) f) (hn : dry.length = n)
    (hs : a.eval s = sv) (hr : (Lay.int k).list.rd m [sv] xs) (hx : xs.length ≤ dLen) (hfit : off + dLen ≤ n)
    (h : ∀ w', St X w0 m0 w' (f (.slice (some ⟨g, 0, none⟩) n cd) n ((splice dry off xs).map (.int k))) m → wpList P ops Q rest (a.put dst (.int .i64 xs.length)) w') : wpList P ops Q (⟨dst, .call { callee := .builtin .copy, args := #[d, s], argTypes := #[dT, sT] }, rt, pos, af, none⟩ :: rest) a w :=
  wpList_plain rfl fun K hK => op_copyR hS d s dT sT rfl hu hsz hd hi hn hs hr hx hfit fun w' hw => hK _ _ (h w' hw)
theorem s_storeR {ty : TypeId} {x y : Operand} (hS : St X w0 m0 w es m) (hn : ∃ d, P.underlying ty = some d ∧ d.isRow = false ∧ (P.info? ty).map (·.size) = some 1) {g off : Nat} (hx : a.eval x = .pointer (some ⟨g, off, none⟩)) {v : Value} (hy : a.eval y = v) (h1 : v.oneCell' = true)
    {e : TypeId} {size n c : Nat} {xs : List Value} {f : Value → Nat → List Value → List Ent} (hi : RowAt es e size (.slice (some ⟨g, 0, none⟩) n c) n xs f) (hl : off < xs.length)
    (h : ∀ w', St X w0 m0 w' (f (.slice (some ⟨g, 0, none⟩) n c) n (xs.set off v)) m → K (a.put dst undef) w') : if Region.wanted ⟨dst, .store ty x y, rt, pos, af, none⟩ (yielded ops a.tmps) = true then Oper.wp P ⟨dst, .store ty x y, rt, pos, af, none⟩ a w K Q else E :=
  step_of rfl (op_storeR hS ty x y rfl hn hx hy h1 hi hl h)
theorem l_storeR {ty : TypeId} {x y : Operand} (hS : St X w0 m0 w es m) (hn : ∃ d, P.underlying ty = some d ∧ d.isRow = false ∧ (P.info? ty).map (·.size) = some 1) {g off : Nat} (hx : a.eval x = .pointer (some ⟨g, off, none⟩)) {v : Value} (hy : a.eval y = v) (h1 : v.oneCell' = true)
    {e : TypeId} {size n c : Nat} {xs : List Value} {f : Value → Nat → List Value → List Ent} (hi : RowAt es e size (.slice (some ⟨g, 0, none⟩) n c) n xs f) (hl : off < xs.length)
    (h : ∀ w', St X w0 m0 w' (f (.slice (some ⟨g, 0, none⟩) n c) n (xs.set off v)) m → wpList P ops Q rest (a.put dst undef) w') : wpList P ops Q (⟨dst, .store ty x y, rt, pos, af, none⟩ :: rest) a w :=
  wpList_plain rfl fun K hK => op_storeR hS ty x y rfl hn hx hy h1 hi hl fun w' hw => hK _ _ (h w' hw)
theorem l_make {t e : TypeId} {size bytes : Nat} {z : Value} (hE : Elem P t e size bytes z) {l c : Operand} (n : Nat) (hS : St X w0 m0 w es m) {kl kc : IntKind} {xl xc : Int} (hl : a.eval l = .int kl xl) (hc : a.eval c = .int kc xc) (hl2 : xl = n) (hc2 : xc = n) (hbytes : bytes * n ≤ 281474976710656) (h24 : n * size ≤ 16777216) (h63 : n ≤ maxLen)
    (h : ∀ w' b, St X w0 m0 w' (.row e size (.slice (some ⟨b, 0, none⟩) n n) n (madeCells z.cells (n * size)).toList :: es) m → wpList P ops Q rest (a.put dst (.slice (some ⟨b, 0, none⟩) n n)) w') : wpList P ops Q (⟨dst, .makeSlice t l c, rt, pos, af, none⟩ :: rest) a w :=
  wpList_plain rfl fun K hK => op_make hS hE l c rfl n hl hc hl2 hc2 hbytes h24 h63 fun w' b hw => hK _ _ (h w' b hw)
theorem l_lit0 {t e : TypeId} {size bytes : Nat} {z : Value} (hE : Elem P t e size bytes z) (hS : St X w0 m0 w es m)
    (h : ∀ w' b, St X w0 m0 w' (.row e size (.slice (some ⟨b, 0, none⟩) 0 0) 0 [] :: es) m → wpList P ops Q rest (a.put dst (.slice (some ⟨b, 0, none⟩) 0 0)) w') : wpList P ops Q (⟨dst, .buildSlice t 0 #[], rt, pos, af, none⟩ :: rest) a w :=
  wpList_plain rfl fun K hK => op_lit0 hS hE rfl fun w' b hw => hK _ _ (h w' b hw)
end
/-- A row of its own, cells of xs. -/
def RetRow {α : Type} (L : Lay α) (e : TypeId) (w : World) (m : Mem) (xs : List α) (en : Ending) (w' : World) : Prop :=
  ∃ q c cells, en = .returned (.slice q xs.length c) ∧ CellsOf L m cells xs ∧ St [] w m w' [.row e L.n (.slice q xs.length c) xs.length cells] m
end Go.Proofs.Ytnmgiiaejpaeeaa
/- Contract of the disk's reference: Flush. -/
namespace Go.Proofs.Ytnmgiiaejpaeeaa
set_option linter.unusedVariables false
set_option linter.unusedSimpArgs false
open Go.RowKit
theorem fl_err {d : Dk} {e : Int} (h : aliveE d = e) (h0 : e ≠ 0) : flushE d = e ∧ flushD d = dk0 := by
  unfold flushE flushD
  rw [h, if_neg h0, if_neg h0]
  exact ⟨rfl, rfl⟩
theorem fl_ok {d : Dk} (h : aliveE d = 0) : flushE d = deedE d ∧ flushD d = deedD flushAct d := by
  unfold flushE flushD
  rw [h, if_pos rfl, if_pos rfl]
  exact ⟨rfl, rfl⟩
theorem settle_inK (many : Nat → Nat) : ∀ (l : List Wr) (i : Nat) (dry : List Int), (∀ x ∈ dry, InK .u8 x) → (∀ y ∈ l, ∀ x ∈ y.b, InK .u8 x) → ∀ x ∈ settleAt many i l dry, InK .u8 x
  | [], _, _, h, _ => h
  | y :: l, i, dry, h, hl => by
    refine settle_inK many l (i + 1) _ (fun x hx => ?_) fun z hz => hl z (by simp [hz])
    simp only [splice, List.mem_append] at hx
    rcases hx with hx | hx | hx
    · exact h x (List.mem_of_mem_take hx)
    · exact hl y (by simp) x (List.mem_of_mem_take hx)
    · exact h x (List.mem_of_mem_drop hx)
theorem row_octets {m : Mem} {p : Option Addr} {ws : List Wr} (h : Row wrL m p ws) : ∀ y ∈ ws, ∀ x ∈ y.b, InK .u8 x := fun y hy x hx => by
  obtain ⟨i, hi, rfl⟩ := List.getElem_of_mem hy
  obtain ⟨b, o, cs, _, hr, _⟩ := h.get i hi
  obtain ⟨v, _, _, hv⟩ := wrL_open hr
  obtain ⟨_, _, _, _, _, _, h4⟩ := Lay.list_open hv
  exact h4.inK x hx
theorem close_half {w w' : World} {m m' : Mem} {es : List Ent} {vd vq : Value} {D : Dk} {e E f : Int} {b : Bool} (hE : E = e) (hf : D.fuse = f) (hb : D.dead = b) (hk : InK .i64 f)
    (hS : St [] w m w' (.row 5 1 vd D.dry.length (D.dry.map (.int .u8)) :: es) m') (hd : ∀ x ∈ D.dry, InK .u8 x) (hv : wrL.list.rd m' [vq] D.wet) (h1 : D.dry.length ≤ 140737488355328) :
    RetDE w m D E (.returned (.tuple #[.agg ([vd, vq, .int .i64 f, .bool b] : List Value).toArray, .int .i64 e])) w' := by
  subst hE hf hb
  have hcd : CellsOf u8L m' (D.dry.map (.int .u8)) D.dry := by
    refine ⟨D.dry.map fun x => [.int .u8 x], ?_, by simp, fun i cs x h3 h4 => ?_⟩
    · induction D.dry with
      | nil => rfl
      | cons x xs ih => simp [ih]
    · simp [List.getElem?_map, h4] at h3
      subst h3
      exact ⟨rfl, hd _ (List.mem_of_getElem? h4)⟩
  obtain ⟨m1, k1, k2, k3⟩ := hS.settleRow (L := u8L) 0 rfl hcd (by simpa [Lay.int, kBytes] using h1)
  exact ⟨_, m1, rfl, ⟨_, rfl, dkL_mk k3 (wrL.list.mono k2 hv) hk⟩, k1.done⟩
set_option maxRecDepth 100000 in
set_option maxHeartbeats 4000000 in
theorem rflush_c (m : Mem) (w : World) (hm : m.In w) (cs : List Value) (d : Dk) (h : dkL.rd m cs d) :
    Calls Try.prog 45 #[.agg cs.toArray] w (RetDE w m (flushD d) (flushE d)) := by
  have hh := h
  obtain ⟨v0, v1, rfl, h0, h1, _⟩ := dkL_open h
  obtain ⟨p0, c0, rfl, a1, a2, _, a4⟩ := Lay.list_open h0
  obtain ⟨p1, c1, rfl, b1, b2, b3, b4⟩ := Lay.list_open h1
  have hS := St.start hm
  have HH := Lib.hid hh
  have HR := Lib.hid a4.inK
  have HO := Lib.hid (row_octets b4)
  simp only [maxLen] at a2 b2
  clear h h0 h1 b3 hh a4 b4
  cases hdd : d.dead
  all_goals
    rw [hdd] at HH
    have HD := Lib.hid hdd
    clear hdd
    rcases checkE_cases d with ⟨hE, hok⟩ | ⟨hE, hok⟩
    all_goals
      have HE := Lib.hid hE
      have HK := Lib.hid hok
      have HA := Lib.hid (show aliveE d = _ by first | exact (alive_of HD.out).1 hok | exact (alive_of HD.out).2 hok)
      clear hE hok
      go_enter Try.func45, Try.ntmps45
      go_wp2_with (first 
    | ((with_reducible apply l_box (ty := 44) (y := (.tmp 0)) hS); (· (first | (go_simp; done) | (go_simp; with_reducible rfl))); (· exact rfl); clear hS; intro w1 b1 hS)
    | ((with_reducible apply l_alloc (ty := 44) (dst := some 2) hS (.agg #[.slice none 0 0, .slice none 0 0, .int .i64 0, .bool false]) [.slice none 0 0, .slice none 0 0, .int .i64 0, .bool false]); (· kernel_rfl); (· rfl); clear hS; intro w2 b2 hS)
    | ((with_reducible apply l_alloc (ty := 102) (dst := some 6) hS (.agg #[.int .i64 0, .slice none 0 0]) [.int .i64 0, .slice none 0 0]); (· kernel_rfl); (· rfl); clear hS; intro w6 b6 hS)
    | ((with_reducible apply l_load hS); (· (first | exact Try.underlying3 | exact Try.underlying4 | exact Try.underlying22 | exact Try.underlying42)); (· exact rfl); (· exact rfl); (· (first | (apply Find.box; (· (repeat constructor)); rfl) | exact Find.mem (by assumption) | (apply Find.row; (· (repeat constructor)); assumption))))
    | ((with_reducible apply g_load hS); (· (first | exact Try.underlying3 | exact Try.underlying4 | exact Try.underlying22 | exact Try.underlying42)); (· exact rfl); (· (first | rfl | (go_simp; done))); (· exact rfl); (· (first | (apply Find.box; (· (repeat constructor)); rfl) | exact Find.mem (by assumption) | (apply Find.row; (· (repeat constructor)); assumption))))
    | ((with_reducible apply l_loads hS); (· (first | exact rowT44 | exact rowT102)); (· exact rfl); (· (first | (apply Finds.box; (· (repeat constructor)); (· (repeat constructor)); done) | (refine Finds.mem2 (by assumption) ?_; first | rfl | assumption | (simp; done)) | (apply Finds.row; (· (repeat constructor)); (· assumption); (· rfl)))))
    | ((with_reducible apply g_loads hS); (· (first | exact rowT44 | exact rowT102)); (· (first | rfl | (go_simp; done))); (· exact rfl); (· (first | (apply Finds.box; (· (repeat constructor)); (· (repeat constructor)); done) | (refine Finds.mem2 (by assumption) ?_; first | rfl | assumption | (simp; done)) | (apply Finds.row; (· (repeat constructor)); (· assumption); (· rfl)))))
    | ((with_reducible apply l_store hS); (· (first | exact rowT42)); (· exact rfl); (· (first | (go_simp; done) | (go_simp; with_reducible rfl))); (· (first | rfl | assumption | (simp [Value.oneCell']; done))); (· (repeat constructor)); (· (repeat constructor)); (· (repeat constructor)); clear hS; intro ws hS)
    | ((with_reducible apply l_storeR hS); (· (first | exact rowT42)); (· exact rfl); (· (first | (go_simp; done) | (go_simp; with_reducible rfl))); (· (first | rfl | assumption | (simp [Value.oneCell']; done))); (· (repeat constructor)); (· (first | assumption | omega | (simp; omega))); clear hS; intro ws hS)
    | ((with_reducible apply l_stores hS); (· (first | exact rowT44 | exact rowT102)); (· exact rfl); (· exact rfl); (· exact rfl); (· (first | assumption | (simp [Value.oneCell']; done))); (· (repeat constructor)); (· (repeat constructor)); (· (repeat constructor)); clear hS; intro ws hS)
        | (go_at_call 51; refine (rcheck_c _ _ hS.inw _ _ HH.out).mono ?_; rintro e' w8 ⟨v8, m5, rfl, rfl, hk⟩; rw [HE.out]; replace hS := hS.call hk; have hle := hk.le; clear hk)
        | (go_at_call 83; refine (burn_c _ _ hS.inw _ _ (dkL.mono hle HH.out) HK.out.2.2.2.2.2.2 HK.out.2.2.2.2.2.1).mono ?_; rintro e' w16 ⟨vd, vq, cells, m6, rfl, hc, hk⟩; replace hS := hS.callOwn hk; have hle6 := hk.le; simp only [List.cons_append, List.nil_append] at hS; (try rw [(burn_dry d).1] at *); (try rw [(burn_dry d).2] at *); obtain ⟨qd, cd, rfl⟩ := row_form (hS.row 0 rfl); obtain ⟨m7, hS7, hle7, hq7⟩ := hS.settleRow (L := wrL) 1 rfl hc (ok_big HK.out).2; replace hS := hS7; simp only [List.eraseIdx_cons_succ, List.eraseIdx_cons_zero] at hS; obtain ⟨qq, cq, rfl, q1, q2, q3, q4⟩ := Lay.list_open hq7; have HQ := Lib.hid q4; have HQ7 := Lib.hid hq7; clear hc hk hS7 hq7 q4 q3))
      all_goals first
        | (refine ret_cell_tmp (n := 4) rfl rfl hS (by (repeat constructor)) (by rfl) dkRow rfl ?_
           have A := HA.out
           (try simp only [if_true, Bool.false_eq_true, if_false] at A)
           first
           | (have E := fl_err A (by decide); exact close_err E.1 E.2 hS)
           | (have E := fl_ok A
              have e0 : d.fuse = 0 := by assumption
              have e1 : deedD flushAct d = burnD d := by unfold deedD burnD; rw [if_pos e0, if_pos e0]
              rw [E.1, E.2, e1]
              exact close_half (if_pos e0) rfl rfl (inK64 (by have := (burn_big HK.out).1; omega) (by have := (burn_big HK.out).2; omega)) (by rw [(burn_dry d).1]; exact hS) (by rw [(burn_dry d).1]; exact HR.out) (by rw [(burn_dry d).2]; exact HQ7.out) (by rw [(burn_dry d).1]; exact (ok_big HK.out).1)))
        | skip
      all_goals
        have HF0 : Hid (d.fuse ≠ 0) := by show _ ≠ _; omega
        have H0 : Hid (0 < d.dry.length ∧ d.dry.length ≤ 262144) := by have := HK.out.1; have := HK.out.2.1; show _ ∧ _; omega
        have HP := Lib.hid (placed_of_ok HK.out)
        obtain ⟨gd, rfl, g1, g2⟩ := row_head (hS.row 0 rfl) H0.out.1
        simp only [maxLen] at g2 q2
        go_loopw [25] (fun i wr => ∃ k : Nat, k ≤ d.wet.length ∧ i = .int .i64 k ∧ St [] w m wr [.row 5 1 (.slice (some ⟨gd, 0, none⟩) d.dry.length cd) d.dry.length ((settleAt (fun _ => 32) 0 (d.wet.take k) d.dry).map (.int .u8)), .box b2 [.slice none 0 0, .slice none 0 0, .int .i64 0, .bool false], .box b1 [.slice (some ⟨gd, 0, none⟩) d.dry.length cd, .slice qq d.wet.length cq, .int .i64 (burnD d).fuse, .bool (burnD d).dead]] m7) (fun i _ => d.wet.length - (intOf i).toNat)
        case atStart => exact ⟨0, Nat.zero_le _, rfl, (hS.front (x := .box b2 _) (by (repeat constructor))).front (x := .row 5 1 _ _ _) (by (repeat constructor))⟩
        case round =>
          clear hS
          obtain ⟨k, hk, rfl, hS⟩ := hrel
          by_cases hlt : k < d.wet.length
          · obtain ⟨b, o, cs, rfl, hx, hg⟩ := HQ.out.get k hlt
            obtain ⟨v, rfl, hpk, hv⟩ := wrL_open hx
            obtain ⟨z1, z2, z3⟩ := HP.out _ (List.getElem_mem hlt)
            obtain ⟨p, hp⟩ : ∃ p : Nat, d.wet[k].pos = p := ⟨d.wet[k].pos.toNat, by omega⟩
            obtain ⟨q, c, rfl, x1, x2, x3, x4⟩ := Lay.list_open hv
            rw [hp] at hg hpk z2
            rw [z3] at hg hv
            have hg' : ∀ j v, [.int .i64 (p : Int), .slice q 32 c][j]? = some v → m7 ⟨b, o + k * 2 + j, none⟩ = some v := hg
            have HV := Lib.hid hv
            have HZ := Lib.hid z3
            have HPP := Lib.hid hp
            have y1 : (p + 1) * 32 ≤ d.dry.length := by simpa using z2
            have y2 : (32 * (p : Int)) ≤ (d.dry.length : Int) := by omega
            have y3 : ¬ cd = 32 * p := by omega
            have HL := Lib.hid (settleAt_length (fun _ => 32) d.dry.length (fun _ => Nat.le_refl _) (d.wet.take k) 0 d.dry rfl fun x hx => (HP.out x (List.mem_of_mem_take hx)).2)
            have H2 := Lib.hid H0.out.2
            clear hg hx hv hpk z1 z2 z3 hp x1 x2 x3 x4
            go_wp2_with (first 
    | ((with_reducible apply l_box (ty := 44) (y := (.tmp 0)) hS); (· (first | (go_simp; done) | (go_simp; with_reducible rfl))); (· exact rfl); clear hS; intro w1 b1 hS)
    | ((with_reducible apply l_alloc (ty := 44) (dst := some 2) hS (.agg #[.slice none 0 0, .slice none 0 0, .int .i64 0, .bool false]) [.slice none 0 0, .slice none 0 0, .int .i64 0, .bool false]); (· kernel_rfl); (· rfl); clear hS; intro w2 b2 hS)
    | ((with_reducible apply l_alloc (ty := 102) (dst := some 6) hS (.agg #[.int .i64 0, .slice none 0 0]) [.int .i64 0, .slice none 0 0]); (· kernel_rfl); (· rfl); clear hS; intro w6 b6 hS)
    | ((with_reducible apply l_load hS); (· (first | exact Try.underlying3 | exact Try.underlying4 | exact Try.underlying22 | exact Try.underlying42)); (· exact rfl); (· exact rfl); (· (first | (apply Find.box; (· (repeat constructor)); rfl) | exact Find.mem (by assumption) | (apply Find.row; (· (repeat constructor)); assumption))))
    | ((with_reducible apply g_load hS); (· (first | exact Try.underlying3 | exact Try.underlying4 | exact Try.underlying22 | exact Try.underlying42)); (· exact rfl); (· (first | rfl | (go_simp; done))); (· exact rfl); (· (first | (apply Find.box; (· (repeat constructor)); rfl) | exact Find.mem (by assumption) | (apply Find.row; (· (repeat constructor)); assumption))))
    | ((with_reducible apply l_loads hS); (· (first | exact rowT44 | exact rowT102)); (· exact rfl); (· (first | (apply Finds.box; (· (repeat constructor)); (· (repeat constructor)); done) | (refine Finds.mem2 (by assumption) ?_; first | rfl | assumption | (simp; done)) | (apply Finds.row; (· (repeat constructor)); (· assumption); (· rfl)))))
    | ((with_reducible apply g_loads hS); (· (first | exact rowT44 | exact rowT102)); (· (first | rfl | (go_simp; done))); (· exact rfl); (· (first | (apply Finds.box; (· (repeat constructor)); (· (repeat constructor)); done) | (refine Finds.mem2 (by assumption) ?_; first | rfl | assumption | (simp; done)) | (apply Finds.row; (· (repeat constructor)); (· assumption); (· rfl)))))
    | ((with_reducible apply l_store hS); (· (first | exact rowT42)); (· exact rfl); (· (first | (go_simp; done) | (go_simp; with_reducible rfl))); (· (first | rfl | assumption | (simp [Value.oneCell']; done))); (· (repeat constructor)); (· (repeat constructor)); (· (repeat constructor)); clear hS; intro ws hS)
    | ((with_reducible apply l_storeR hS); (· (first | exact rowT42)); (· exact rfl); (· (first | (go_simp; done) | (go_simp; with_reducible rfl))); (· (first | rfl | assumption | (simp [Value.oneCell']; done))); (· (repeat constructor)); (· (first | assumption | omega | (simp; omega))); clear hS; intro ws hS)
    | ((with_reducible apply l_stores hS); (· (first | exact rowT44 | exact rowT102)); (· exact rfl); (· exact rfl); (· exact rfl); (· (first | assumption | (simp [Value.oneCell']; done))); (· (repeat constructor)); (· (repeat constructor)); (· (repeat constructor)); clear hS; intro ws hS))
            have HB : Hid (settleAt (fun _ => 32) 0 (d.wet.take (k + 1)) d.dry = splice (settleAt (fun _ => 32) 0 (d.wet.take k) d.dry) (32 * p) d.wet[k].b) := by
              show _ = _
              have eb : d.wet[k].b.take 32 = d.wet[k].b := List.take_of_length_le (by have := HZ.out; omega)
              rw [List.take_succ_eq_append_getElem hlt, settleAt_snoc]
              show splice _ (d.wet[k].pos.toNat * 32) (d.wet[k].b.take 32) = _
              rw [eb, show d.wet[k].pos.toNat * 32 = 32 * p by rw [HPP.out]; omega]
            have y4 : IntKind.i64.wrap (32 * (p : Int)) = 32 * (p : Int) := IntWalk.i64_in _ (by omega)
            have y5 : (0 : Int) ≤ 32 * (p : Int) := by omega
            have y6 : (32 * (p : Int)).toNat = 32 * p := by omega
            replace hS := hS.drew
            refine startL (S := Sx _ [(b1, _), (b6, _)]) (by kernel_rfl) ((hS.sx0.cons hS (by (repeat constructor))).cons hS (by (repeat constructor))) (fun _ _ _ _ => trivial) (fun hHeld => ?_)
            focus (refine takeN 0 (v := ?_) rfl (by kernel_rfl) ?_ ?_; rotate_left; focus (intro w hSw; clear hSw; go_simp; try with_reducible rfl))
            try simp only [Act.put, nz1, nz2, nz3]
            refine takeN 1 rfl (by kernel_rfl) (yield_load rfl Try.underlying22 rfl rfl (by (first | (apply FindX.box; (· (repeat constructor)); rfl) | exact FindX.mem (by assumption)))) ?_
            try simp only [Act.put, nz1, nz2, nz3]
            focus (refine takeN 2 (v := ?_) rfl (by kernel_rfl) ?_ ?_; rotate_left; focus (intro w hSw; clear hSw; go_simp; try with_reducible rfl))
            try simp only [Act.put, nz1, nz2, nz3]
            refine takeN 3 rfl (by kernel_rfl) (yield_load rfl Try.underlying3 rfl rfl (by (first | (apply FindX.box; (· (repeat constructor)); rfl) | exact FindX.mem (by assumption)))) ?_
            try simp only [Act.put, nz1, nz2, nz3]
            focus (refine takeN 4 (v := ?_) rfl (by kernel_rfl) ?_ ?_; rotate_left; focus (intro w hSw; clear hSw; go_simp; try with_reducible rfl))
            try simp only [Act.put, nz1, nz2, nz3]
            focus (refine takeN 5 (v := ?_) rfl (by kernel_rfl) ?_ ?_; rotate_left; focus (intro w hSw; clear hSw; go_simp; try with_reducible rfl))
            try simp only [Act.put, nz1, nz2, nz3]
            focus (refine takeN 6 (v := ?_) rfl (by kernel_rfl) ?_ ?_; rotate_left; focus (intro w hSw; clear hSw; go_simp; try with_reducible rfl))
            try simp only [Act.put, nz1, nz2, nz3]
            refine takeN 7 rfl (by kernel_rfl) (yield_load rfl Try.underlying22 rfl rfl (by (first | (apply FindX.box; (· (repeat constructor)); rfl) | exact FindX.mem (by assumption)))) ?_
            try simp only [Act.put, nz1, nz2, nz3]
            refine wpAnyH_ready (rs := [8]) (by kernel_rfl) (by simp) ?_
            refine consL 8 rfl (fun K hK => ?_) AllReadyH.nil
            (with_reducible apply s_copyR hS Try.underlying22 (by kernel_rfl)); (· exact rfl); (· (repeat constructor)); (· exact HL.out); (· exact rfl); (· exact HV.out); (· rw [HZ.out]; omega); (· omega); clear hS; intro w37 hS
            refine hK.out _ _ (by first | exact ((hS.sx0.cons hS (by (repeat constructor))).cons hS (by (repeat constructor))) | exact Sx.le (by assumption) ((hS.sx0.cons hS (by (repeat constructor))).cons hS (by (repeat constructor)))) (fun hHeld => ?_)
            clear hK K
            try simp only [Act.put, nz1, nz2, nz3]
            refine wpAnyH_done (by kernel_rfl) ?_ _
            refine NoPanic.normal ?_
            clear y4 y5 y6
            go_wp2_with (first 
    | ((with_reducible apply l_box (ty := 44) (y := (.tmp 0)) hS); (· (first | (go_simp; done) | (go_simp; with_reducible rfl))); (· exact rfl); clear hS; intro w1 b1 hS)
    | ((with_reducible apply l_alloc (ty := 44) (dst := some 2) hS (.agg #[.slice none 0 0, .slice none 0 0, .int .i64 0, .bool false]) [.slice none 0 0, .slice none 0 0, .int .i64 0, .bool false]); (· kernel_rfl); (· rfl); clear hS; intro w2 b2 hS)
    | ((with_reducible apply l_alloc (ty := 102) (dst := some 6) hS (.agg #[.int .i64 0, .slice none 0 0]) [.int .i64 0, .slice none 0 0]); (· kernel_rfl); (· rfl); clear hS; intro w6 b6 hS)
    | ((with_reducible apply l_load hS); (· (first | exact Try.underlying3 | exact Try.underlying4 | exact Try.underlying22 | exact Try.underlying42)); (· exact rfl); (· exact rfl); (· (first | (apply Find.box; (· (repeat constructor)); rfl) | exact Find.mem (by assumption) | (apply Find.row; (· (repeat constructor)); assumption))))
    | ((with_reducible apply g_load hS); (· (first | exact Try.underlying3 | exact Try.underlying4 | exact Try.underlying22 | exact Try.underlying42)); (· exact rfl); (· (first | rfl | (go_simp; done))); (· exact rfl); (· (first | (apply Find.box; (· (repeat constructor)); rfl) | exact Find.mem (by assumption) | (apply Find.row; (· (repeat constructor)); assumption))))
    | ((with_reducible apply l_loads hS); (· (first | exact rowT44 | exact rowT102)); (· exact rfl); (· (first | (apply Finds.box; (· (repeat constructor)); (· (repeat constructor)); done) | (refine Finds.mem2 (by assumption) ?_; first | rfl | assumption | (simp; done)) | (apply Finds.row; (· (repeat constructor)); (· assumption); (· rfl)))))
    | ((with_reducible apply g_loads hS); (· (first | exact rowT44 | exact rowT102)); (· (first | rfl | (go_simp; done))); (· exact rfl); (· (first | (apply Finds.box; (· (repeat constructor)); (· (repeat constructor)); done) | (refine Finds.mem2 (by assumption) ?_; first | rfl | assumption | (simp; done)) | (apply Finds.row; (· (repeat constructor)); (· assumption); (· rfl)))))
    | ((with_reducible apply l_store hS); (· (first | exact rowT42)); (· exact rfl); (· (first | (go_simp; done) | (go_simp; with_reducible rfl))); (· (first | rfl | assumption | (simp [Value.oneCell']; done))); (· (repeat constructor)); (· (repeat constructor)); (· (repeat constructor)); clear hS; intro ws hS)
    | ((with_reducible apply l_storeR hS); (· (first | exact rowT42)); (· exact rfl); (· (first | (go_simp; done) | (go_simp; with_reducible rfl))); (· (first | rfl | assumption | (simp [Value.oneCell']; done))); (· (repeat constructor)); (· (first | assumption | omega | (simp; omega))); clear hS; intro ws hS)
    | ((with_reducible apply l_stores hS); (· (first | exact rowT44 | exact rowT102)); (· exact rfl); (· exact rfl); (· exact rfl); (· (first | assumption | (simp [Value.oneCell']; done))); (· (repeat constructor)); (· (repeat constructor)); (· (repeat constructor)); clear hS; intro ws hS))
            go_roundw
            case rel => exact ⟨k + 1, hlt, by go_num, by rw [HB.out]; exact hS.forget (x := .box b6 _) (by (repeat constructor))⟩
            case measure => simp [intOf]; omega
          · obtain rfl : k = d.wet.length := by omega
            rw [List.take_length] at hS
            go_wp2_with (first 
    | ((with_reducible apply l_box (ty := 44) (y := (.tmp 0)) hS); (· (first | (go_simp; done) | (go_simp; with_reducible rfl))); (· exact rfl); clear hS; intro w1 b1 hS)
    | ((with_reducible apply l_alloc (ty := 44) (dst := some 2) hS (.agg #[.slice none 0 0, .slice none 0 0, .int .i64 0, .bool false]) [.slice none 0 0, .slice none 0 0, .int .i64 0, .bool false]); (· kernel_rfl); (· rfl); clear hS; intro w2 b2 hS)
    | ((with_reducible apply l_alloc (ty := 102) (dst := some 6) hS (.agg #[.int .i64 0, .slice none 0 0]) [.int .i64 0, .slice none 0 0]); (· kernel_rfl); (· rfl); clear hS; intro w6 b6 hS)
    | ((with_reducible apply l_load hS); (· (first | exact Try.underlying3 | exact Try.underlying4 | exact Try.underlying22 | exact Try.underlying42)); (· exact rfl); (· exact rfl); (· (first | (apply Find.box; (· (repeat constructor)); rfl) | exact Find.mem (by assumption) | (apply Find.row; (· (repeat constructor)); assumption))))
    | ((with_reducible apply g_load hS); (· (first | exact Try.underlying3 | exact Try.underlying4 | exact Try.underlying22 | exact Try.underlying42)); (· exact rfl); (· (first | rfl | (go_simp; done))); (· exact rfl); (· (first | (apply Find.box; (· (repeat constructor)); rfl) | exact Find.mem (by assumption) | (apply Find.row; (· (repeat constructor)); assumption))))
    | ((with_reducible apply l_loads hS); (· (first | exact rowT44 | exact rowT102)); (· exact rfl); (· (first | (apply Finds.box; (· (repeat constructor)); (· (repeat constructor)); done) | (refine Finds.mem2 (by assumption) ?_; first | rfl | assumption | (simp; done)) | (apply Finds.row; (· (repeat constructor)); (· assumption); (· rfl)))))
    | ((with_reducible apply g_loads hS); (· (first | exact rowT44 | exact rowT102)); (· (first | rfl | (go_simp; done))); (· exact rfl); (· (first | (apply Finds.box; (· (repeat constructor)); (· (repeat constructor)); done) | (refine Finds.mem2 (by assumption) ?_; first | rfl | assumption | (simp; done)) | (apply Finds.row; (· (repeat constructor)); (· assumption); (· rfl)))))
    | ((with_reducible apply l_store hS); (· (first | exact rowT42)); (· exact rfl); (· (first | (go_simp; done) | (go_simp; with_reducible rfl))); (· (first | rfl | assumption | (simp [Value.oneCell']; done))); (· (repeat constructor)); (· (repeat constructor)); (· (repeat constructor)); clear hS; intro ws hS)
    | ((with_reducible apply l_storeR hS); (· (first | exact rowT42)); (· exact rfl); (· (first | (go_simp; done) | (go_simp; with_reducible rfl))); (· (first | rfl | assumption | (simp [Value.oneCell']; done))); (· (repeat constructor)); (· (first | assumption | omega | (simp; omega))); clear hS; intro ws hS)
    | ((with_reducible apply l_stores hS); (· (first | exact rowT44 | exact rowT102)); (· exact rfl); (· exact rfl); (· exact rfl); (· (first | assumption | (simp [Value.oneCell']; done))); (· (repeat constructor)); (· (repeat constructor)); (· (repeat constructor)); clear hS; intro ws hS))
            refine ret_cell_tmp (n := 4) rfl rfl hS (by (repeat constructor)) (by rfl) dkRow rfl ?_
            have A := HA.out
            (try simp only [if_true, Bool.false_eq_true, if_false] at A)
            have E := fl_ok A
            have e1 := deed_burn flushAct HF0.out HK.out.2.2.2.2.2.1
            rw [E.1, E.2, e1]
            have hl : (settleAt (fun _ => 32) 0 d.wet d.dry).length = d.dry.length := settleAt_length (fun _ => 32) d.dry.length (fun _ => Nat.le_refl _) d.wet 0 d.dry rfl fun x hx => (HP.out x hx).2
            refine close_half (if_neg HF0.out) rfl (burn_dead HF0.out).symm (inK64 (by have := (burn_big HK.out).1; omega) (by have := (burn_big HK.out).2; omega)) (by simp only [flushAct, hl]; exact hS) (settle_inK _ _ _ _ HR.out HO.out) (Lay.nil_rd _ _) (by have := H0.out.2; show (settleAt (fun _ => 32) 0 d.wet d.dry).length ≤ _; omega)
end Go.Proofs.Ytnmgiiaejpaeeaa
/- Contract of the disk's reference: Read. -/
namespace Go.Proofs.Ytnmgiiaejpaeeaa
set_option linter.unusedVariables false
set_option linter.unusedSimpArgs false
open Go.RowKit
/-- The octets that were written last there, of those that come from the end. -/
def lastOf (k : Int) : List Wr → Option (List Int)
  | [] => none
  | x :: l => if x.pos = k then some x.b else lastOf k l
def readE (d : Dk) (k : Int) : Int := if aliveE d ≠ 0 then aliveE d else if farD d k then 5 else 0
def readB (d : Dk) (k : Int) : List Int := if readE d k ≠ 0 then [] else (lastOf k d.wet.reverse).getD ((d.dry.take (k.toNat * 32 + 32)).drop (k.toNat * 32))
/-- Octets, and an error, are handed back. -/
def RetBE (w : World) (m : Mem) (b : List Int) (e : Int) : Ending → World → Prop := Ret w m fun v m' => ∃ vb, v = .tuple #[vb, .int .i64 e] ∧ bytesL.rd m' [vb] b
theorem bclose_err {w w' : World} {m m' : Mem} {es : List Ent} {b : List Int} {e E : Int} (hE : E = e) (hB : b = []) (hS : St [] w m w' es m') : RetBE w m b E (.returned (.tuple #[.slice none 0 0, .int .i64 e])) w' := by
  subst hE hB
  exact ⟨_, m', rfl, ⟨_, rfl, Lay.nil_rd _ _⟩, hS.done⟩
theorem bclose_own {w w' : World} {m m' : Mem} {es : List Ent} {v : Value} {b : List Int} {n : Nat} {e E : Int} (hE : E = e) (hn : n = b.length) (hS : St [] w m w' (.row 5 1 v n (b.map (.int .u8)) :: es) m') (hk : ∀ x ∈ b, InK .u8 x) (h1 : b.length ≤ 140737488355328) : RetBE w m b E (.returned (.tuple #[v, .int .i64 e])) w' := by
  subst hE hn
  have hcd : CellsOf u8L m' (b.map (.int .u8)) b := by
    refine ⟨b.map fun x => [.int .u8 x], ?_, by simp, fun i cs x h3 h4 => ?_⟩
    · clear h1 hS hk
      induction b with
      | nil => rfl
      | cons x xs ih => simp [ih]
    · simp [List.getElem?_map, h4] at h3
      subst h3
      exact ⟨rfl, hk _ (List.mem_of_getElem? h4)⟩
  obtain ⟨m1, k1, k2, k3⟩ := hS.settleRow (L := u8L) 0 rfl hcd (by simpa [Lay.int, kBytes] using h1)
  exact ⟨_, m1, rfl, ⟨_, rfl, k3⟩, k1.done⟩
theorem lastOf_mem {k : Int} : ∀ {l : List Wr} {b : List Int}, lastOf k l = some b → ∃ x ∈ l, x.b = b
  | x :: l, b, h => by
    unfold lastOf at h
    split at h
    · cases h; exact ⟨x, by simp, rfl⟩
    · obtain ⟨y, hy, e⟩ := lastOf_mem h; exact ⟨y, by simp [hy], e⟩
set_option maxRecDepth 100000 in
set_option maxHeartbeats 4000000 in
theorem rread_c (m : Mem) (w : World) (hm : m.In w) (cs : List Value) (d : Dk) (h : dkL.rd m cs d) (k : Int) :
    Calls Try.prog 43 #[.agg cs.toArray, .int .i64 k] w (RetBE w m (readB d k) (readE d k)) := by
  have hh := h
  obtain ⟨v0, v1, rfl, h0, h1, _⟩ := dkL_open h
  obtain ⟨p0, c0, rfl, a1, a2, _, a4⟩ := Lay.list_open h0
  obtain ⟨p1, c1, rfl, b1, b2, b3, b4⟩ := Lay.list_open h1
  have hS := St.start hm
  have HH := Lib.hid hh
  have HD0 := Lib.hid h0
  have HA4 := Lib.hid a4
  have HR := Lib.hid a4.inK
  have HO := Lib.hid (row_octets b4)
  have H4 := Lib.hid b4
  simp only [maxLen] at a2 b2
  clear h h0 h1 b3 hh a4 b4
  cases hdd : d.dead
  all_goals
    rw [hdd] at HH
    have HD := Lib.hid hdd
    clear hdd
    rcases checkE_cases d with ⟨hE, hok⟩ | ⟨hE, hok⟩
    all_goals
      have HE := Lib.hid hE
      have HK := Lib.hid hok
      have HA := Lib.hid (show aliveE d = _ by first | exact (alive_of HD.out).1 hok | exact (alive_of HD.out).2 hok)
      clear hE hok
      by_cases hrg : 0 ≤ k ∧ k < (d.dry.length : Int) / 32
      · obtain ⟨n, rfl⟩ : ∃ n : Nat, k = n := ⟨k.toNat, by omega⟩
        have hn1 : (n + 1) * 32 ≤ d.dry.length := by omega
        obtain ⟨b0, o0, rfl, _⟩ := HA4.out (by omega)
        have HF : Hid (farD d n = false) := by show _ = _; simp [farD]; omega
        have hpart := rdL_part HD0.out (32 * n) (32 * n + 32) (by omega) (by omega)
        rw [show (Lay.int .u8).n = 1 from rfl, Nat.mul_one, show 32 * n + 32 - 32 * n = 32 by omega] at hpart
        have HPART := Lib.hid hpart
        clear hpart
        have y3 : ¬ c0 = 32 * n := by omega
        have hrg1 := hrg.2
        clear hrg
        go_enter Try.func43, Try.ntmps43
        go_wp2_with (first 
    | ((with_reducible apply l_box (ty := 44) (y := (.tmp 0)) hS); (· (first | (go_simp; done) | (go_simp; with_reducible rfl))); (· exact rfl); clear hS; intro w2 b2 hS)
    | ((with_reducible apply l_alloc (ty := 102) (dst := some 8) hS (.agg #[.int .i64 0, .slice none 0 0]) [.int .i64 0, .slice none 0 0]); (· kernel_rfl); (· rfl); clear hS; intro w8 b8 hS)
    | ((with_reducible apply l_load hS); (· (first | exact Try.underlying3 | exact Try.underlying4 | exact Try.underlying22 | exact Try.underlying42)); (· exact rfl); (· exact rfl); (· (first | (apply Find.box; (· (repeat constructor)); rfl) | exact Find.mem (by assumption) | (apply Find.row; (· (repeat constructor)); assumption))))
    | ((with_reducible apply g_load hS); (· (first | exact Try.underlying3 | exact Try.underlying4 | exact Try.underlying22 | exact Try.underlying42)); (· exact rfl); (· (first | rfl | (go_simp; done))); (· exact rfl); (· (first | (apply Find.box; (· (repeat constructor)); rfl) | exact Find.mem (by assumption) | (apply Find.row; (· (repeat constructor)); assumption))))
    | ((with_reducible apply l_loads hS); (· (first | exact rowT44 | exact rowT102)); (· exact rfl); (· (first | (apply Finds.box; (· (repeat constructor)); (· (repeat constructor)); done) | (refine Finds.mem2 (by assumption) ?_; first | rfl | assumption | (simp; done)) | (apply Finds.row; (· (repeat constructor)); (· assumption); (· rfl)))))
    | ((with_reducible apply g_loads hS); (· (first | exact rowT44 | exact rowT102)); (· (first | rfl | (go_simp; done))); (· exact rfl); (· (first | (apply Finds.box; (· (repeat constructor)); (· (repeat constructor)); done) | (refine Finds.mem2 (by assumption) ?_; first | rfl | assumption | (simp; done)) | (apply Finds.row; (· (repeat constructor)); (· assumption); (· rfl)))))
    | ((with_reducible apply l_stores hS); (· (first | exact rowT102)); (· exact rfl); (· exact rfl); (· exact rfl); (· (first | assumption | (simp [Value.oneCell']; done))); (· (repeat constructor)); (· (repeat constructor)); (· (repeat constructor)); clear hS; intro ws hS)
          | (go_at_call 51; refine (rcheck_c _ _ hS.inw _ _ HH.out).mono ?_; rintro e' w10 ⟨v10, m5, rfl, rfl, hk⟩; rw [HE.out]; replace hS := hS.call hk; have hle := hk.le; have HPM := Lib.hid (bytesL.mono hle HPART.out); clear hk)
          | ((with_reducible apply l_append_nil u8L el_u8 (dst := some 32) hS (by decide)); (· exact rfl); (· (first | (go_simp; done) | (go_simp; with_reducible rfl))); (· exact HPM.out); clear hS; intro w32 q32 c32 news32 hc32 hS; obtain ⟨rfl, _⟩ := cellsInt hc32; clear hc32))
        all_goals first
          | (go_ret2
             have A := HA.out
             (try simp only [if_true, Bool.false_eq_true, if_false] at A)
             have E : readE d n = aliveE d := if_pos (by rw [A]; decide)
             exact bclose_err (E.trans A) (by unfold readB; rw [if_pos (by rw [E, A]; decide)]) hS)
          | skip
        all_goals
          have HP := Lib.hid (fun x hx => (placed_of_ok HK.out x hx).2.2)
          have HM := Lib.hid (H4.out.mono hle)
          obtain ⟨cur, hcur⟩ : ∃ cur : Nat → List Int, cur = fun j => (lastOf n (d.wet.take j).reverse).getD ((d.dry.take (32 * n + 32)).drop (32 * n)) := ⟨_, rfl⟩
          have HC := Lib.hid hcur
          have e0 : (d.dry.take (32 * n + 32)).drop (32 * n) = cur 0 := by rw [hcur]; simp [lastOf]
          have e1 : (32 : Nat) = (cur 0).length := by rw [← e0]; simp; omega
          rw [e0] at hS
          clear hcur HPM HPART
          go_loopw [6, 36] (fun bv i wr => ∃ (j : Nat) (q : Option Addr) (c : Nat), j ≤ d.wet.length ∧ i = .int .i64 j ∧ bv = .slice q (cur j).length c ∧ St [] w m wr [.row 5 1 (.slice q (cur j).length c) (cur j).length ((cur j).map (.int .u8)), .box b2 [.slice (some ⟨b0, o0, none⟩) d.dry.length c0, .slice p1 d.wet.length c1, .int .i64 d.fuse, .bool false]] m5) (fun _ i _ => d.wet.length - (intOf i).toNat)
          case atStart => exact ⟨0, q32, c32, Nat.zero_le _, rfl, by rw [show min (32 * n + 32) d.dry.length - 32 * n = (cur 0).length by rw [← e1]; omega], hS⟩
          case round =>
            clear hS e0 e1
            obtain ⟨j, qb, cb, hj, rfl, rfl, hS⟩ := hrel
            by_cases hlt : j < d.wet.length
            · obtain ⟨b, o, cs, rfl, hx, hg⟩ := HM.out.get j hlt
              obtain ⟨v, rfl, hpk, hv⟩ := wrL_open hx
              obtain ⟨q, c, rfl, x1, x2, x3, x4⟩ := Lay.list_open hv
              have HZ := Lib.hid (HP.out _ (List.getElem_mem hlt))
              have HV := Lib.hid hv
              have HX : Hid (cur (j + 1) = if d.wet[j].pos = (n : Int) then d.wet[j].b else cur j) := by
                show _ = _
                rw [HC.out]
                simp only [List.take_succ_eq_append_getElem hlt, List.reverse_append, List.reverse_cons, List.reverse_nil, List.nil_append, List.cons_append, lastOf]
                split <;> rfl
              have hg' : ∀ i v, [.int .i64 d.wet[j].pos, .slice q d.wet[j].b.length c][i]? = some v → m5 ⟨b, o + j * 2 + i, none⟩ = some v := hg
              clear hg hx hv hpk x1 x2 x3 x4
              by_cases hpe : d.wet[j].pos = (n : Int)
              · have hx2 : cur (j + 1) = d.wet[j].b := by rw [HX.out, if_pos hpe]
                rw [hpe] at hg'
                have HX2 := Lib.hid hx2
                have HPE := Lib.hid hpe
                clear hx2 hpe HX
                go_wp2_with (first 
    | ((with_reducible apply l_box (ty := 44) (y := (.tmp 0)) hS); (· (first | (go_simp; done) | (go_simp; with_reducible rfl))); (· exact rfl); clear hS; intro w2 b2 hS)
    | ((with_reducible apply l_alloc (ty := 102) (dst := some 8) hS (.agg #[.int .i64 0, .slice none 0 0]) [.int .i64 0, .slice none 0 0]); (· kernel_rfl); (· rfl); clear hS; intro w8 b8 hS)
    | ((with_reducible apply l_load hS); (· (first | exact Try.underlying3 | exact Try.underlying4 | exact Try.underlying22 | exact Try.underlying42)); (· exact rfl); (· exact rfl); (· (first | (apply Find.box; (· (repeat constructor)); rfl) | exact Find.mem (by assumption) | (apply Find.row; (· (repeat constructor)); assumption))))
    | ((with_reducible apply g_load hS); (· (first | exact Try.underlying3 | exact Try.underlying4 | exact Try.underlying22 | exact Try.underlying42)); (· exact rfl); (· (first | rfl | (go_simp; done))); (· exact rfl); (· (first | (apply Find.box; (· (repeat constructor)); rfl) | exact Find.mem (by assumption) | (apply Find.row; (· (repeat constructor)); assumption))))
    | ((with_reducible apply l_loads hS); (· (first | exact rowT44 | exact rowT102)); (· exact rfl); (· (first | (apply Finds.box; (· (repeat constructor)); (· (repeat constructor)); done) | (refine Finds.mem2 (by assumption) ?_; first | rfl | assumption | (simp; done)) | (apply Finds.row; (· (repeat constructor)); (· assumption); (· rfl)))))
    | ((with_reducible apply g_loads hS); (· (first | exact rowT44 | exact rowT102)); (· (first | rfl | (go_simp; done))); (· exact rfl); (· (first | (apply Finds.box; (· (repeat constructor)); (· (repeat constructor)); done) | (refine Finds.mem2 (by assumption) ?_; first | rfl | assumption | (simp; done)) | (apply Finds.row; (· (repeat constructor)); (· assumption); (· rfl)))))
    | ((with_reducible apply l_stores hS); (· (first | exact rowT102)); (· exact rfl); (· exact rfl); (· exact rfl); (· (first | assumption | (simp [Value.oneCell']; done))); (· (repeat constructor)); (· (repeat constructor)); (· (repeat constructor)); clear hS; intro ws hS)
                  | ((with_reducible apply l_append_nil u8L el_u8 (dst := some 46) hS (by decide)); (· exact rfl); (· (first | (go_simp; done) | (go_simp; with_reducible rfl))); (· exact HV.out); clear hS; intro w46 q46 c46 news46 hc46 hS; obtain ⟨rfl, _⟩ := cellsInt hc46; clear hc46))
                go_roundw
                case rel => exact ⟨j + 1, q46, c46, hlt, by go_num, by rw [HX2.out], by rw [HX2.out]; exact (hS.forget (x := .row 5 1 (.slice qb _ _) _ _) (by (repeat constructor))).forget (x := .box b8 _) (by (repeat constructor))⟩
                case measure => simp [intOf]; omega
              · have hx2 : cur (j + 1) = cur j := by rw [HX.out, if_neg hpe]
                have hpb : (d.wet[j].pos == (n : Int)) = false := by simpa using hpe
                have HX2 := Lib.hid hx2
                clear hx2 hpe HX
                go_wp2_with (first 
    | ((with_reducible apply l_box (ty := 44) (y := (.tmp 0)) hS); (· (first | (go_simp; done) | (go_simp; with_reducible rfl))); (· exact rfl); clear hS; intro w2 b2 hS)
    | ((with_reducible apply l_alloc (ty := 102) (dst := some 8) hS (.agg #[.int .i64 0, .slice none 0 0]) [.int .i64 0, .slice none 0 0]); (· kernel_rfl); (· rfl); clear hS; intro w8 b8 hS)
    | ((with_reducible apply l_load hS); (· (first | exact Try.underlying3 | exact Try.underlying4 | exact Try.underlying22 | exact Try.underlying42)); (· exact rfl); (· exact rfl); (· (first | (apply Find.box; (· (repeat constructor)); rfl) | exact Find.mem (by assumption) | (apply Find.row; (· (repeat constructor)); assumption))))
    | ((with_reducible apply g_load hS); (· (first | exact Try.underlying3 | exact Try.underlying4 | exact Try.underlying22 | exact Try.underlying42)); (· exact rfl); (· (first | rfl | (go_simp; done))); (· exact rfl); (· (first | (apply Find.box; (· (repeat constructor)); rfl) | exact Find.mem (by assumption) | (apply Find.row; (· (repeat constructor)); assumption))))
    | ((with_reducible apply l_loads hS); (· (first | exact rowT44 | exact rowT102)); (· exact rfl); (· (first | (apply Finds.box; (· (repeat constructor)); (· (repeat constructor)); done) | (refine Finds.mem2 (by assumption) ?_; first | rfl | assumption | (simp; done)) | (apply Finds.row; (· (repeat constructor)); (· assumption); (· rfl)))))
    | ((with_reducible apply g_loads hS); (· (first | exact rowT44 | exact rowT102)); (· (first | rfl | (go_simp; done))); (· exact rfl); (· (first | (apply Finds.box; (· (repeat constructor)); (· (repeat constructor)); done) | (refine Finds.mem2 (by assumption) ?_; first | rfl | assumption | (simp; done)) | (apply Finds.row; (· (repeat constructor)); (· assumption); (· rfl)))))
    | ((with_reducible apply l_stores hS); (· (first | exact rowT102)); (· exact rfl); (· exact rfl); (· exact rfl); (· (first | assumption | (simp [Value.oneCell']; done))); (· (repeat constructor)); (· (repeat constructor)); (· (repeat constructor)); clear hS; intro ws hS))
                go_roundw
                case rel => exact ⟨j + 1, qb, cb, hlt, by go_num, by rw [HX2.out], by rw [HX2.out]; exact hS.forget (x := .box b8 _) (by (repeat constructor))⟩
                case measure => simp [intOf]; omega
            · obtain rfl : j = d.wet.length := by omega
              go_wp2_with (first 
    | ((with_reducible apply l_box (ty := 44) (y := (.tmp 0)) hS); (· (first | (go_simp; done) | (go_simp; with_reducible rfl))); (· exact rfl); clear hS; intro w2 b2 hS)
    | ((with_reducible apply l_alloc (ty := 102) (dst := some 8) hS (.agg #[.int .i64 0, .slice none 0 0]) [.int .i64 0, .slice none 0 0]); (· kernel_rfl); (· rfl); clear hS; intro w8 b8 hS)
    | ((with_reducible apply l_load hS); (· (first | exact Try.underlying3 | exact Try.underlying4 | exact Try.underlying22 | exact Try.underlying42)); (· exact rfl); (· exact rfl); (· (first | (apply Find.box; (· (repeat constructor)); rfl) | exact Find.mem (by assumption) | (apply Find.row; (· (repeat constructor)); assumption))))
    | ((with_reducible apply g_load hS); (· (first | exact Try.underlying3 | exact Try.underlying4 | exact Try.underlying22 | exact Try.underlying42)); (· exact rfl); (· (first | rfl | (go_simp; done))); (· exact rfl); (· (first | (apply Find.box; (· (repeat constructor)); rfl) | exact Find.mem (by assumption) | (apply Find.row; (· (repeat constructor)); assumption))))
    | ((with_reducible apply l_loads hS); (· (first | exact rowT44 | exact rowT102)); (· exact rfl); (· (first | (apply Finds.box; (· (repeat constructor)); (· (repeat constructor)); done) | (refine Finds.mem2 (by assumption) ?_; first | rfl | assumption | (simp; done)) | (apply Finds.row; (· (repeat constructor)); (· assumption); (· rfl)))))
    | ((with_reducible apply g_loads hS); (· (first | exact rowT44 | exact rowT102)); (· (first | rfl | (go_simp; done))); (· exact rfl); (· (first | (apply Finds.box; (· (repeat constructor)); (· (repeat constructor)); done) | (refine Finds.mem2 (by assumption) ?_; first | rfl | assumption | (simp; done)) | (apply Finds.row; (· (repeat constructor)); (· assumption); (· rfl)))))
    | ((with_reducible apply l_stores hS); (· (first | exact rowT102)); (· exact rfl); (· exact rfl); (· exact rfl); (· (first | assumption | (simp [Value.oneCell']; done))); (· (repeat constructor)); (· (repeat constructor)); (· (repeat constructor)); clear hS; intro ws hS))
              go_ret2
              have A := HA.out
              (try simp only [if_true, Bool.false_eq_true, if_false] at A)
              have E : readE d n = 0 := by unfold readE; rw [if_neg (by rw [A]; decide), if_neg (by rw [HF.out]; decide)]
              have hb : readB d n = cur d.wet.length := by
                unfold readB
                rw [if_neg (by rw [E]; decide), HC.out, show (n : Int).toNat * 32 = 32 * n by omega]
                simp only [List.take_length]
              have hin : (∀ x ∈ cur d.wet.length, InK .u8 x) ∧ (cur d.wet.length).length ≤ 140737488355328 := by
                rw [HC.out]
                simp only [List.take_length]
                cases hl : lastOf (n : Int) d.wet.reverse with
                | none =>
                  refine ⟨fun x hx => HR.out x (List.mem_of_mem_take (List.mem_of_mem_drop hx)), ?_⟩
                  simp; omega
                | some bb =>
                  obtain ⟨y, hy, e⟩ := lastOf_mem hl
                  simp only [List.mem_reverse] at hy
                  subst e
                  exact ⟨HO.out y hy, by have := HP.out y hy; simp; omega⟩
              rw [hb]
              exact bclose_own E rfl hS hin.1 hin.2
      · have hrg' : k < 0 ∨ (d.dry.length : Int) / 32 ≤ k := by omega
        have HF : Hid (farD d k = true) := by show _ = _; simp [farD]; omega
        rcases hrg' with hr1 | hr1
        all_goals
          clear hrg
          have HPART : Hid (bytesL.rd m [.slice none 0 0] []) := Lay.nil_rd _ _
          go_enter Try.func43, Try.ntmps43
          go_wp2_with (first 
    | ((with_reducible apply l_box (ty := 44) (y := (.tmp 0)) hS); (· (first | (go_simp; done) | (go_simp; with_reducible rfl))); (· exact rfl); clear hS; intro w2 b2 hS)
    | ((with_reducible apply l_alloc (ty := 102) (dst := some 8) hS (.agg #[.int .i64 0, .slice none 0 0]) [.int .i64 0, .slice none 0 0]); (· kernel_rfl); (· rfl); clear hS; intro w8 b8 hS)
    | ((with_reducible apply l_load hS); (· (first | exact Try.underlying3 | exact Try.underlying4 | exact Try.underlying22 | exact Try.underlying42)); (· exact rfl); (· exact rfl); (· (first | (apply Find.box; (· (repeat constructor)); rfl) | exact Find.mem (by assumption) | (apply Find.row; (· (repeat constructor)); assumption))))
    | ((with_reducible apply g_load hS); (· (first | exact Try.underlying3 | exact Try.underlying4 | exact Try.underlying22 | exact Try.underlying42)); (· exact rfl); (· (first | rfl | (go_simp; done))); (· exact rfl); (· (first | (apply Find.box; (· (repeat constructor)); rfl) | exact Find.mem (by assumption) | (apply Find.row; (· (repeat constructor)); assumption))))
    | ((with_reducible apply l_loads hS); (· (first | exact rowT44 | exact rowT102)); (· exact rfl); (· (first | (apply Finds.box; (· (repeat constructor)); (· (repeat constructor)); done) | (refine Finds.mem2 (by assumption) ?_; first | rfl | assumption | (simp; done)) | (apply Finds.row; (· (repeat constructor)); (· assumption); (· rfl)))))
    | ((with_reducible apply g_loads hS); (· (first | exact rowT44 | exact rowT102)); (· (first | rfl | (go_simp; done))); (· exact rfl); (· (first | (apply Finds.box; (· (repeat constructor)); (· (repeat constructor)); done) | (refine Finds.mem2 (by assumption) ?_; first | rfl | assumption | (simp; done)) | (apply Finds.row; (· (repeat constructor)); (· assumption); (· rfl)))))
    | ((with_reducible apply l_stores hS); (· (first | exact rowT102)); (· exact rfl); (· exact rfl); (· exact rfl); (· (first | assumption | (simp [Value.oneCell']; done))); (· (repeat constructor)); (· (repeat constructor)); (· (repeat constructor)); clear hS; intro ws hS)
          | (go_at_call 51; refine (rcheck_c _ _ hS.inw _ _ HH.out).mono ?_; rintro e' w10 ⟨v10, m5, rfl, rfl, hk⟩; rw [HE.out]; replace hS := hS.call hk; have hle := hk.le; have HPM := Lib.hid (bytesL.mono hle HPART.out); clear hk)
          | ((with_reducible apply l_append_nil u8L el_u8 (dst := some 32) hS (by decide)); (· exact rfl); (· (first | (go_simp; done) | (go_simp; with_reducible rfl))); (· exact HPM.out); clear hS; intro w32 q32 c32 news32 hc32 hS; obtain ⟨rfl, _⟩ := cellsInt hc32; clear hc32))
          go_ret2
          have A := HA.out
          (try simp only [if_true, Bool.false_eq_true, if_false] at A)
          first
          | (have E : readE d k = aliveE d := if_pos (by rw [A]; decide)
             exact bclose_err (E.trans A) (by unfold readB; rw [if_pos (by rw [E, A]; decide)]) hS)
          | (have E : readE d k = 5 := by unfold readE; rw [if_neg (by rw [A]; decide), if_pos HF.out]
             exact bclose_err E (by unfold readB; rw [if_pos (by rw [E]; decide)]) hS)
end Go.Proofs.Ytnmgiiaejpaeeaa
/- Contracts of package disk, over the state of a walk: clones, own. -/
namespace Go.Proofs.Ytnmgiiaejpaeeaa
set_option linter.unusedVariables false
set_option linter.unusedSimpArgs false
open Go.RowKit
set_option maxRecDepth 100000 in
set_option maxHeartbeats 2000000 in
theorem bclone_c (m : Mem) (w : World) (hm : m.In w) (v : Value) {xs} (h : u8L.list.rd m [v] xs) : Calls Try.prog 73 #[v] w (RetRow u8L 5 w m xs) := by
  have qn : ∀ (w : World) (a : Option Addr) (n c n' c' : Nat), (binOp .eql 22 (.slice a n c) (.slice none n' c')).run Try.prog w = .ok (.bool a.isNone) w := fun w a n c n' c' => Lib.run_eql_slice_nil w _ _ a n c n' c' Try.underlying22
  have HH := Lib.hid h
  obtain ⟨p, c, rfl, h1, h2, h3, h4⟩ := Lay.list_open h
  have hS := St.start hm
  cases p with
  | none =>
    have : xs = [] := by
      rcases Nat.eq_zero_or_pos xs.length with h0 | h0
      · exact List.eq_nil_of_length_eq_zero h0
      · obtain ⟨b, o, e, _⟩ := h4 h0; cases e
    subst this
    clear h h1 h2 h3 h4 HH
    go_enter Try.func73, Try.ntmps73
    go_wp2
    go_ret
    exact ⟨none, 0, [], rfl, CellsOf.nil _ _, hS.nilRow _ _⟩
  | some a =>
    have HB := Lib.hid h3
    clear h h1 h2 h3 h4
    go_enter Try.func73, Try.ntmps73
    go_wp2_with (first
      | ((with_reducible apply l_lit0 el_u8 hS); clear hS; intro w5 b5 hS)
      | ((with_reducible apply l_append u8L el_u8 hS (by decide)); (· exact rfl); (· (repeat constructor)); (· exact rfl); (· exact HH.out); (· rw [Nat.zero_add]; exact HB.out); clear hS; intro w7 q7 c7 news7 hc7 hS; simp only [Nat.zero_add, List.nil_append] at hS))
    go_ret
    exact ⟨q7, c7, news7, by simp, hc7, hS⟩
set_option maxRecDepth 100000 in
set_option maxHeartbeats 2000000 in
theorem wclone_c (m : Mem) (w : World) (hm : m.In w) (v : Value) {xs} (h : wrL.list.rd m [v] xs) : Calls Try.prog 94 #[v] w (RetRow wrL 102 w m xs) := by
  have qn : ∀ (w : World) (a : Option Addr) (n c n' c' : Nat), (binOp .eql 42 (.slice a n c) (.slice none n' c')).run Try.prog w = .ok (.bool a.isNone) w := fun w a n c n' c' => Lib.run_eql_slice_nil w _ _ a n c n' c' Try.underlying42
  have HH := Lib.hid h
  obtain ⟨p, c, rfl, h1, h2, h3, h4⟩ := Lay.list_open h
  have hS := St.start hm
  cases p with
  | none =>
    have : xs = [] := by
      rcases Nat.eq_zero_or_pos xs.length with h0 | h0
      · exact List.eq_nil_of_length_eq_zero h0
      · obtain ⟨b, o, e, _⟩ := h4 h0; cases e
    subst this
    clear h h1 h2 h3 h4 HH
    go_enter Try.func94, Try.ntmps94
    go_wp2
    go_ret
    exact ⟨none, 0, [], rfl, CellsOf.nil _ _, hS.nilRow _ _⟩
  | some a =>
    have HB := Lib.hid h3
    clear h h1 h2 h3 h4
    go_enter Try.func94, Try.ntmps94
    go_wp2_with (first
      | ((with_reducible apply l_lit0 el_wr hS); clear hS; intro w5 b5 hS)
      | ((with_reducible apply l_append wrL el_wr hS (by decide)); (· exact rfl); (· (repeat constructor)); (· exact rfl); (· exact HH.out); (· rw [Nat.zero_add]; exact HB.out); clear hS; intro w7 q7 c7 news7 hc7 hS; simp only [Nat.zero_add, List.nil_append] at hS))
    go_ret
    exact ⟨q7, c7, news7, by simp, hc7, hS⟩
theorem wr_parts {m : Mem} {cells : List Value} {ws : List Wr} (h : CellsOf wrL m cells ws) (k : Nat) (hk : k < ws.length) : ∃ v, bytesL.rd m [v] ws[k].b ∧ cells[k * 2]? = some (.int .i64 ws[k].pos) ∧ cells[k * 2 + 1]? = some v ∧
    ∀ (m' : Mem) (v' : Value), m.Le m' → bytesL.rd m' [v'] ws[k].b → CellsOf wrL m' (cells.set (k * 2 + 1) v') ws := by
  obtain ⟨cs, h1, h2, h3⟩ := h.get k hk
  obtain ⟨v, rfl, hp, hv⟩ := wrL_open h1
  exact ⟨v, hv, by simpa [wrL, Lay.by, Lay.prod, Lay.int, Lay.list] using h2 0 _ rfl, h2 1 _ rfl, fun m' v' hle hr => h3 m' 1 v' hle (by decide) (wrL_mk hp hr)⟩
set_option maxRecDepth 100000 in
set_option maxHeartbeats 4000000 in
theorem own_c (m : Mem) (w : World) (hm : m.In w) (cs : List Value) (d : Dk) (h : dkL.rd m cs d) :
    Calls Try.prog 77 #[.agg cs.toArray] w (OwnD w m d) := by
  obtain ⟨v0, v1, rfl, h0, h1, _⟩ := dkL_open h
  have HB0 := Lib.hid h0
  have HW1 := Lib.hid h1
  obtain ⟨p1, c1, rfl, b1, b2, b3, b4⟩ := Lay.list_open h1
  obtain ⟨p0, c0, rfl, _⟩ := Lay.list_open h0
  have hS := St.start hm
  have H4 := Lib.hid b4
  clear h h0 h1 b3 b4
  go_enter Try.func77, Try.ntmps77
  go_wp2_with (first 
    | ((with_reducible apply l_box (ty := 44) (y := (.tmp 0)) hS); (· (first | (go_simp; done) | (go_simp; with_reducible rfl))); (· exact rfl); clear hS; intro w1 b1 hS)
    | ((with_reducible apply l_alloc (ty := 44) (dst := some 2) hS (.agg #[.slice none 0 0, .slice none 0 0, .int .i64 0, .bool false]) [.slice none 0 0, .slice none 0 0, .int .i64 0, .bool false]); (· kernel_rfl); (· rfl); clear hS; intro w2 b2 hS)
    | ((with_reducible apply l_alloc (ty := 102) (dst := some 4) hS (.agg #[.int .i64 0, .slice none 0 0]) [.int .i64 0, .slice none 0 0]); (· kernel_rfl); (· rfl); clear hS; intro w4 b4 hS)
    | ((with_reducible apply l_load hS); (· (first | exact Try.underlying22 | exact Try.underlying42)); (· exact rfl); (· exact rfl); (· (first | (apply Find.box; (· (repeat constructor)); rfl) | exact Find.mem (by assumption) | (apply Find.row; (· (repeat constructor)); assumption))))
    | ((with_reducible apply g_load hS); (· (first | exact Try.underlying22 | exact Try.underlying42)); (· exact rfl); (· (first | rfl | (go_simp; done))); (· exact rfl); (· (first | (apply Find.box; (· (repeat constructor)); rfl) | exact Find.mem (by assumption) | (apply Find.row; (· (repeat constructor)); assumption))))
    | ((with_reducible apply l_loads hS); (· (first | exact rowT44 | exact rowT102)); (· exact rfl); (· (first | (apply Finds.box; (· (repeat constructor)); (· (repeat constructor)); done) | (refine Finds.mem2 (by assumption) ?_; first | rfl | assumption | (simp; done)) | (apply Finds.row; (· (repeat constructor)); (· assumption); (· rfl)))))
    | ((with_reducible apply g_loads hS); (· (first | exact rowT44 | exact rowT102)); (· (first | rfl | (go_simp; done))); (· exact rfl); (· (first | (apply Finds.box; (· (repeat constructor)); (· (repeat constructor)); done) | (refine Finds.mem2 (by assumption) ?_; first | rfl | assumption | (simp; done)) | (apply Finds.row; (· (repeat constructor)); (· assumption); (· rfl)))))
    | ((with_reducible apply l_store hS); (· (first | exact rowT22 | exact rowT42)); (· exact rfl); (· (first | (go_simp; done) | (go_simp; with_reducible rfl))); (· (first | rfl | assumption | (simp [Value.oneCell']; done))); (· (repeat constructor)); (· (repeat constructor)); (· (repeat constructor)); clear hS; intro ws hS)
    | ((with_reducible apply l_storeR hS); (· (first | exact rowT22 | exact rowT42)); (· exact rfl); (· (first | (go_simp; done) | (go_simp; with_reducible rfl))); (· (first | rfl | assumption | (simp [Value.oneCell']; done))); (· (repeat constructor)); (· (first | assumption | omega | (simp; omega))); clear hS; intro ws hS)
    | ((with_reducible apply l_stores hS); (· (first | exact rowT44 | exact rowT102)); (· exact rfl); (· exact rfl); (· exact rfl); (· (first | assumption | (simp [Value.oneCell']; done))); (· (repeat constructor)); (· (repeat constructor)); (· (repeat constructor)); clear hS; intro ws hS))
  replace hS := hS.drew
  refine startL (S := Sx _ []) (by kernel_rfl) hS.sx0 (fun _ _ _ _ => trivial) (fun hHeld => ?_)
  focus (refine takeN 0 (v := ?_) rfl (by kernel_rfl) ?_ ?_; rotate_left; focus (intro w hSw; clear hSw; go_simp; try with_reducible rfl))
  try simp only [Act.put, nz1, nz2, nz3]
  focus (refine takeN 3 (v := ?_) rfl (by kernel_rfl) ?_ ?_; rotate_left; focus (intro w hSw; clear hSw; go_simp; try with_reducible rfl))
  try simp only [Act.put, nz1, nz2, nz3]
  refine wpAnyH_ready (rs := [1, 4]) (by kernel_rfl) (by simp) ?_
  refine consL 1 rfl (fun K hK => ?_) (consL 4 rfl (fun K hK => ?_) AllReadyH.nil)
  rotate_right
  focus
    (with_reducible apply s_load hS); (· exact Try.underlying42); (· exact rfl); (· exact rfl); (· (first | (apply Find.box; (· (repeat constructor)); rfl) | exact Find.mem (by assumption) | (apply Find.row; (· (repeat constructor)); assumption)))
    refine hK.out _ _ (by first | exact hS.sx0 | exact Sx.le (by assumption) hS.sx0) (fun hHeld => ?_)
    clear hK K
    try simp only [Act.put, nz1, nz2, nz3]
    refine wpAnyH_ready (rs := [1]) (by kernel_rfl) (by simp) ?_
    refine consL 1 rfl (fun K hK => ?_) AllReadyH.nil
    (with_reducible apply s_load hS); (· exact Try.underlying22); (· exact rfl); (· exact rfl); (· (first | (apply Find.box; (· (repeat constructor)); rfl) | exact Find.mem (by assumption) | (apply Find.row; (· (repeat constructor)); assumption)))
    refine hK.out _ _ (by first | exact hS.sx0 | exact Sx.le (by assumption) hS.sx0) (fun hHeld => ?_)
    clear hK K
    try simp only [Act.put, nz1, nz2, nz3]
    refine wpAnyH_ready (rs := [2]) (by kernel_rfl) (by simp) ?_
    refine consL 2 rfl (fun K hK => ?_) AllReadyH.nil
    rw [if_pos (by rfl)]; go_simp; refine (bclone_c _ _ hS.inw _ HB0.out).mono ?_; rintro e' w7 ⟨q7, c7, news7, rfl, hc7, hk7⟩; replace hS := hS.callOwn hk7; obtain ⟨rfl, _⟩ := cellsInt hc7; clear hk7 hc7; go_wp2_with fail
    refine hK.out _ _ (by first | exact hS.sx0 | exact Sx.le (by assumption) hS.sx0) (fun hHeld => ?_)
    clear hK K
    try simp only [Act.put, nz1, nz2, nz3]
    focus (refine takeN 6 (v := ?_) rfl (by kernel_rfl) ?_ ?_; rotate_left; focus (intro w hSw; clear hSw; go_simp; try with_reducible rfl))
    try simp only [Act.put, nz1, nz2, nz3]
    refine wpAnyH_ready (rs := [5]) (by kernel_rfl) (by simp) ?_
    refine consL 5 rfl (fun K hK => ?_) AllReadyH.nil
    rw [if_pos (by rfl)]; go_simp; refine (wclone_c _ _ hS.inw _ HW1.out).mono ?_; rintro e' w10 ⟨q10, c10, news10, rfl, hc10, hk10⟩; replace hS := hS.callOwn hk10; clear hk10; go_wp2_with fail
    refine hK.out _ _ (by first | exact hS.sx0 | exact Sx.le (by assumption) hS.sx0) (fun hHeld => ?_)
    clear hK K
    try simp only [Act.put, nz1, nz2, nz3]
    refine wpAnyH_ready (rs := [7]) (by kernel_rfl) (by simp) ?_
    refine consL 7 rfl (fun K hK => ?_) AllReadyH.nil
    (with_reducible apply s_store hS); (· exact rowT22); (· exact rfl); (· (first | (go_simp; done) | (go_simp; with_reducible rfl))); (· (first | rfl | assumption | (simp [Value.oneCell']; done))); (· (repeat constructor)); (· (repeat constructor)); (· (repeat constructor)); clear hS; intro ws hS
    refine hK.out _ _ (by first | exact hS.sx0 | exact Sx.le (by assumption) hS.sx0) (fun hHeld => ?_)
    clear hK K
    try simp only [Act.put, nz1, nz2, nz3]
    focus (refine takeN 8 (v := ?_) rfl (by kernel_rfl) ?_ ?_; rotate_left; focus (intro w hSw; clear hSw; go_simp; try with_reducible rfl))
    try simp only [Act.put, nz1, nz2, nz3]
    refine wpAnyH_ready (rs := [9]) (by kernel_rfl) (by simp) ?_
    refine consL 9 rfl (fun K hK => ?_) AllReadyH.nil
    (with_reducible apply s_store hS); (· exact rowT42); (· exact rfl); (· (first | (go_simp; done) | (go_simp; with_reducible rfl))); (· (first | rfl | assumption | (simp [Value.oneCell']; done))); (· (repeat constructor)); (· (repeat constructor)); (· (repeat constructor)); clear hS; intro ws hS
    refine hK.out _ _ (by first | exact hS.sx0 | exact Sx.le (by assumption) hS.sx0) (fun hHeld => ?_)
    clear hK K
    try simp only [Act.put, nz1, nz2, nz3]
    refine wpAnyH_done (by kernel_rfl) ?_ _
    refine NoPanic.normal ?_
  rotate_right
  focus
    (with_reducible apply s_load hS); (· exact Try.underlying22); (· exact rfl); (· exact rfl); (· (first | (apply Find.box; (· (repeat constructor)); rfl) | exact Find.mem (by assumption) | (apply Find.row; (· (repeat constructor)); assumption)))
    refine hK.out _ _ (by first | exact hS.sx0 | exact Sx.le (by assumption) hS.sx0) (fun hHeld => ?_)
    clear hK K
    try simp only [Act.put, nz1, nz2, nz3]
    refine wpAnyH_ready (rs := [2, 4]) (by kernel_rfl) (by simp) ?_
    refine consL 2 rfl (fun K hK => ?_) (consL 4 rfl (fun K hK => ?_) AllReadyH.nil)
    rotate_right
    focus
      (with_reducible apply s_load hS); (· exact Try.underlying42); (· exact rfl); (· exact rfl); (· (first | (apply Find.box; (· (repeat constructor)); rfl) | exact Find.mem (by assumption) | (apply Find.row; (· (repeat constructor)); assumption)))
      refine hK.out _ _ (by first | exact hS.sx0 | exact Sx.le (by assumption) hS.sx0) (fun hHeld => ?_)
      clear hK K
      try simp only [Act.put, nz1, nz2, nz3]
      refine wpAnyH_ready (rs := [2]) (by kernel_rfl) (by simp) ?_
      refine consL 2 rfl (fun K hK => ?_) AllReadyH.nil
      rw [if_pos (by rfl)]; go_simp; refine (bclone_c _ _ hS.inw _ HB0.out).mono ?_; rintro e' w7 ⟨q7, c7, news7, rfl, hc7, hk7⟩; replace hS := hS.callOwn hk7; obtain ⟨rfl, _⟩ := cellsInt hc7; clear hk7 hc7; go_wp2_with fail
      refine hK.out _ _ (by first | exact hS.sx0 | exact Sx.le (by assumption) hS.sx0) (fun hHeld => ?_)
      clear hK K
      try simp only [Act.put, nz1, nz2, nz3]
      focus (refine takeN 6 (v := ?_) rfl (by kernel_rfl) ?_ ?_; rotate_left; focus (intro w hSw; clear hSw; go_simp; try with_reducible rfl))
      try simp only [Act.put, nz1, nz2, nz3]
      refine wpAnyH_ready (rs := [5]) (by kernel_rfl) (by simp) ?_
      refine consL 5 rfl (fun K hK => ?_) AllReadyH.nil
      rw [if_pos (by rfl)]; go_simp; refine (wclone_c _ _ hS.inw _ HW1.out).mono ?_; rintro e' w10 ⟨q10, c10, news10, rfl, hc10, hk10⟩; replace hS := hS.callOwn hk10; clear hk10; go_wp2_with fail
      refine hK.out _ _ (by first | exact hS.sx0 | exact Sx.le (by assumption) hS.sx0) (fun hHeld => ?_)
      clear hK K
      try simp only [Act.put, nz1, nz2, nz3]
      refine wpAnyH_ready (rs := [7]) (by kernel_rfl) (by simp) ?_
      refine consL 7 rfl (fun K hK => ?_) AllReadyH.nil
      (with_reducible apply s_store hS); (· exact rowT22); (· exact rfl); (· (first | (go_simp; done) | (go_simp; with_reducible rfl))); (· (first | rfl | assumption | (simp [Value.oneCell']; done))); (· (repeat constructor)); (· (repeat constructor)); (· (repeat constructor)); clear hS; intro ws hS
      refine hK.out _ _ (by first | exact hS.sx0 | exact Sx.le (by assumption) hS.sx0) (fun hHeld => ?_)
      clear hK K
      try simp only [Act.put, nz1, nz2, nz3]
      focus (refine takeN 8 (v := ?_) rfl (by kernel_rfl) ?_ ?_; rotate_left; focus (intro w hSw; clear hSw; go_simp; try with_reducible rfl))
      try simp only [Act.put, nz1, nz2, nz3]
      refine wpAnyH_ready (rs := [9]) (by kernel_rfl) (by simp) ?_
      refine consL 9 rfl (fun K hK => ?_) AllReadyH.nil
      (with_reducible apply s_store hS); (· exact rowT42); (· exact rfl); (· (first | (go_simp; done) | (go_simp; with_reducible rfl))); (· (first | rfl | assumption | (simp [Value.oneCell']; done))); (· (repeat constructor)); (· (repeat constructor)); (· (repeat constructor)); clear hS; intro ws hS
      refine hK.out _ _ (by first | exact hS.sx0 | exact Sx.le (by assumption) hS.sx0) (fun hHeld => ?_)
      clear hK K
      try simp only [Act.put, nz1, nz2, nz3]
      refine wpAnyH_done (by kernel_rfl) ?_ _
      refine NoPanic.normal ?_
    rotate_right
    focus
      rw [if_pos (by rfl)]; go_simp; refine (bclone_c _ _ hS.inw _ HB0.out).mono ?_; rintro e' w7 ⟨q7, c7, news7, rfl, hc7, hk7⟩; replace hS := hS.callOwn hk7; obtain ⟨rfl, _⟩ := cellsInt hc7; clear hk7 hc7; go_wp2_with fail
      refine hK.out _ _ (by first | exact hS.sx0 | exact Sx.le (by assumption) hS.sx0) (fun hHeld => ?_)
      clear hK K
      try simp only [Act.put, nz1, nz2, nz3]
      refine wpAnyH_ready (rs := [4]) (by kernel_rfl) (by simp) ?_
      refine consL 4 rfl (fun K hK => ?_) AllReadyH.nil
      (with_reducible apply s_load hS); (· exact Try.underlying42); (· exact rfl); (· exact rfl); (· (first | (apply Find.box; (· (repeat constructor)); rfl) | exact Find.mem (by assumption) | (apply Find.row; (· (repeat constructor)); assumption)))
      refine hK.out _ _ (by first | exact hS.sx0 | exact Sx.le (by assumption) hS.sx0) (fun hHeld => ?_)
      clear hK K
      try simp only [Act.put, nz1, nz2, nz3]
      focus (refine takeN 6 (v := ?_) rfl (by kernel_rfl) ?_ ?_; rotate_left; focus (intro w hSw; clear hSw; go_simp; try with_reducible rfl))
      try simp only [Act.put, nz1, nz2, nz3]
      refine wpAnyH_ready (rs := [5]) (by kernel_rfl) (by simp) ?_
      refine consL 5 rfl (fun K hK => ?_) AllReadyH.nil
      rw [if_pos (by rfl)]; go_simp; refine (wclone_c _ _ hS.inw _ HW1.out).mono ?_; rintro e' w10 ⟨q10, c10, news10, rfl, hc10, hk10⟩; replace hS := hS.callOwn hk10; clear hk10; go_wp2_with fail
      refine hK.out _ _ (by first | exact hS.sx0 | exact Sx.le (by assumption) hS.sx0) (fun hHeld => ?_)
      clear hK K
      try simp only [Act.put, nz1, nz2, nz3]
      refine wpAnyH_ready (rs := [7]) (by kernel_rfl) (by simp) ?_
      refine consL 7 rfl (fun K hK => ?_) AllReadyH.nil
      (with_reducible apply s_store hS); (· exact rowT22); (· exact rfl); (· (first | (go_simp; done) | (go_simp; with_reducible rfl))); (· (first | rfl | assumption | (simp [Value.oneCell']; done))); (· (repeat constructor)); (· (repeat constructor)); (· (repeat constructor)); clear hS; intro ws hS
      refine hK.out _ _ (by first | exact hS.sx0 | exact Sx.le (by assumption) hS.sx0) (fun hHeld => ?_)
      clear hK K
      try simp only [Act.put, nz1, nz2, nz3]
      focus (refine takeN 8 (v := ?_) rfl (by kernel_rfl) ?_ ?_; rotate_left; focus (intro w hSw; clear hSw; go_simp; try with_reducible rfl))
      try simp only [Act.put, nz1, nz2, nz3]
      refine wpAnyH_ready (rs := [9]) (by kernel_rfl) (by simp) ?_
      refine consL 9 rfl (fun K hK => ?_) AllReadyH.nil
      (with_reducible apply s_store hS); (· exact rowT42); (· exact rfl); (· (first | (go_simp; done) | (go_simp; with_reducible rfl))); (· (first | rfl | assumption | (simp [Value.oneCell']; done))); (· (repeat constructor)); (· (repeat constructor)); (· (repeat constructor)); clear hS; intro ws hS
      refine hK.out _ _ (by first | exact hS.sx0 | exact Sx.le (by assumption) hS.sx0) (fun hHeld => ?_)
      clear hK K
      try simp only [Act.put, nz1, nz2, nz3]
      refine wpAnyH_done (by kernel_rfl) ?_ _
      refine NoPanic.normal ?_
  all_goals
    replace hS := ((hS.front (x := .box b1 _) (by (repeat constructor))).front (x := .row 102 _ _ _ _) (by (repeat constructor))).front (x := .row 5 _ _ _ _) (by (repeat constructor))
    have HC := Lib.hid hc10
    clear hc10
    go_wp2_with (first 
    | ((with_reducible apply l_box (ty := 44) (y := (.tmp 0)) hS); (· (first | (go_simp; done) | (go_simp; with_reducible rfl))); (· exact rfl); clear hS; intro w1 b1 hS)
    | ((with_reducible apply l_alloc (ty := 44) (dst := some 2) hS (.agg #[.slice none 0 0, .slice none 0 0, .int .i64 0, .bool false]) [.slice none 0 0, .slice none 0 0, .int .i64 0, .bool false]); (· kernel_rfl); (· rfl); clear hS; intro w2 b2 hS)
    | ((with_reducible apply l_alloc (ty := 102) (dst := some 4) hS (.agg #[.int .i64 0, .slice none 0 0]) [.int .i64 0, .slice none 0 0]); (· kernel_rfl); (· rfl); clear hS; intro w4 b4 hS)
    | ((with_reducible apply l_load hS); (· (first | exact Try.underlying22 | exact Try.underlying42)); (· exact rfl); (· exact rfl); (· (first | (apply Find.box; (· (repeat constructor)); rfl) | exact Find.mem (by assumption) | (apply Find.row; (· (repeat constructor)); assumption))))
    | ((with_reducible apply g_load hS); (· (first | exact Try.underlying22 | exact Try.underlying42)); (· exact rfl); (· (first | rfl | (go_simp; done))); (· exact rfl); (· (first | (apply Find.box; (· (repeat constructor)); rfl) | exact Find.mem (by assumption) | (apply Find.row; (· (repeat constructor)); assumption))))
    | ((with_reducible apply l_loads hS); (· (first | exact rowT44 | exact rowT102)); (· exact rfl); (· (first | (apply Finds.box; (· (repeat constructor)); (· (repeat constructor)); done) | (refine Finds.mem2 (by assumption) ?_; first | rfl | assumption | (simp; done)) | (apply Finds.row; (· (repeat constructor)); (· assumption); (· rfl)))))
    | ((with_reducible apply g_loads hS); (· (first | exact rowT44 | exact rowT102)); (· (first | rfl | (go_simp; done))); (· exact rfl); (· (first | (apply Finds.box; (· (repeat constructor)); (· (repeat constructor)); done) | (refine Finds.mem2 (by assumption) ?_; first | rfl | assumption | (simp; done)) | (apply Finds.row; (· (repeat constructor)); (· assumption); (· rfl)))))
    | ((with_reducible apply l_store hS); (· (first | exact rowT22 | exact rowT42)); (· exact rfl); (· (first | (go_simp; done) | (go_simp; with_reducible rfl))); (· (first | rfl | assumption | (simp [Value.oneCell']; done))); (· (repeat constructor)); (· (repeat constructor)); (· (repeat constructor)); clear hS; intro ws hS)
    | ((with_reducible apply l_storeR hS); (· (first | exact rowT22 | exact rowT42)); (· exact rfl); (· (first | (go_simp; done) | (go_simp; with_reducible rfl))); (· (first | rfl | assumption | (simp [Value.oneCell']; done))); (· (repeat constructor)); (· (first | assumption | omega | (simp; omega))); clear hS; intro ws hS)
    | ((with_reducible apply l_stores hS); (· (first | exact rowT44 | exact rowT102)); (· exact rfl); (· exact rfl); (· exact rfl); (· (first | assumption | (simp [Value.oneCell']; done))); (· (repeat constructor)); (· (repeat constructor)); (· (repeat constructor)); clear hS; intro ws hS))
    go_loopw [16] (fun i wr => ∃ (k : Nat) (cells : List Value) (m' : Mem), k ≤ d.wet.length ∧ i = .int .i64 k ∧ m.Le m' ∧ CellsOf wrL m' cells d.wet ∧ St [] w m wr [.row 5 1 (.slice q7 d.dry.length c7) d.dry.length (d.dry.map (.int .u8)), .row 102 2 (.slice q10 d.wet.length c10) d.wet.length cells, .box b1 [.slice q7 d.dry.length c7, .slice q10 d.wet.length c10, .int .i64 d.fuse, .bool d.dead], .box b2 [.slice none 0 0, .slice none 0 0, .int .i64 0, .bool false]] m') (fun i _ => d.wet.length - (intOf i).toNat)
    case atStart => exact ⟨0, news10, m, Nat.zero_le _, rfl, Mem.Le.refl _, HC.out, hS⟩
    case round =>
      clear hS
      obtain ⟨k, cells, m', hk, rfl, hle, hcells, hS⟩ := hrel
      by_cases hlt : k < d.wet.length
      · obtain ⟨g, rfl, g1, g2⟩ := row_head (hS.row 1 rfl) (by omega)
        obtain ⟨v, hv, hk0, hk1, hset⟩ := wr_parts hcells k hlt
        obtain ⟨q, c, rfl, _⟩ := Lay.list_open hv
        have hg' : ∀ j v, [.int .i64 d.wet[k].pos, .slice q d.wet[k].b.length c][j]? = some v → cells[k * 2 + j]? = some v := fun j v hj => by
          match j, hj with
          | 0, hj => cases hj; exact hk0
          | 1, hj => cases hj; exact hk1
          | j + 2, hj => simp at hj
        have hl : k * 2 + 1 < cells.length := (List.getElem?_eq_some_iff.1 hk1).1
        have HV := Lib.hid hv
        have HL := Lib.hid hl
        have HS := Lib.hid hset
        have HB : Hid (d.wet[k].b.length * u8L.bytes ≤ 140737488355328) := by obtain ⟨_, _, e, _, _, h3, _⟩ := HV.out; exact h3
        have hkk : ¬ (d.wet.length : Int) ≤ (k : Int) := by omega
        simp only [maxLen] at g2
        clear hk0 hk1 hv hset hcells hl
        go_wp2_with (first 
    | ((with_reducible apply l_box (ty := 44) (y := (.tmp 0)) hS); (· (first | (go_simp; done) | (go_simp; with_reducible rfl))); (· exact rfl); clear hS; intro w1 b1 hS)
    | ((with_reducible apply l_alloc (ty := 44) (dst := some 2) hS (.agg #[.slice none 0 0, .slice none 0 0, .int .i64 0, .bool false]) [.slice none 0 0, .slice none 0 0, .int .i64 0, .bool false]); (· kernel_rfl); (· rfl); clear hS; intro w2 b2 hS)
    | ((with_reducible apply l_alloc (ty := 102) (dst := some 4) hS (.agg #[.int .i64 0, .slice none 0 0]) [.int .i64 0, .slice none 0 0]); (· kernel_rfl); (· rfl); clear hS; intro w4 b4 hS)
    | ((with_reducible apply l_load hS); (· (first | exact Try.underlying22 | exact Try.underlying42)); (· exact rfl); (· exact rfl); (· (first | (apply Find.box; (· (repeat constructor)); rfl) | exact Find.mem (by assumption) | (apply Find.row; (· (repeat constructor)); assumption))))
    | ((with_reducible apply g_load hS); (· (first | exact Try.underlying22 | exact Try.underlying42)); (· exact rfl); (· (first | rfl | (go_simp; done))); (· exact rfl); (· (first | (apply Find.box; (· (repeat constructor)); rfl) | exact Find.mem (by assumption) | (apply Find.row; (· (repeat constructor)); assumption))))
    | ((with_reducible apply l_loads hS); (· (first | exact rowT44 | exact rowT102)); (· exact rfl); (· (first | (apply Finds.box; (· (repeat constructor)); (· (repeat constructor)); done) | (refine Finds.mem2 (by assumption) ?_; first | rfl | assumption | (simp; done)) | (apply Finds.row; (· (repeat constructor)); (· assumption); (· rfl)))))
    | ((with_reducible apply g_loads hS); (· (first | exact rowT44 | exact rowT102)); (· (first | rfl | (go_simp; done))); (· exact rfl); (· (first | (apply Finds.box; (· (repeat constructor)); (· (repeat constructor)); done) | (refine Finds.mem2 (by assumption) ?_; first | rfl | assumption | (simp; done)) | (apply Finds.row; (· (repeat constructor)); (· assumption); (· rfl)))))
    | ((with_reducible apply l_store hS); (· (first | exact rowT22 | exact rowT42)); (· exact rfl); (· (first | (go_simp; done) | (go_simp; with_reducible rfl))); (· (first | rfl | assumption | (simp [Value.oneCell']; done))); (· (repeat constructor)); (· (repeat constructor)); (· (repeat constructor)); clear hS; intro ws hS)
    | ((with_reducible apply l_storeR hS); (· (first | exact rowT22 | exact rowT42)); (· exact rfl); (· (first | (go_simp; done) | (go_simp; with_reducible rfl))); (· (first | rfl | assumption | (simp [Value.oneCell']; done))); (· (repeat constructor)); (· (first | assumption | omega | (simp; omega))); clear hS; intro ws hS)
    | ((with_reducible apply l_stores hS); (· (first | exact rowT44 | exact rowT102)); (· exact rfl); (· exact rfl); (· exact rfl); (· (first | assumption | (simp [Value.oneCell']; done))); (· (repeat constructor)); (· (repeat constructor)); (· (repeat constructor)); clear hS; intro ws hS))
        replace hS := hS.drew
        refine startL (S := Sx _ [(b1, _), (b4, _)]) (by kernel_rfl) ((hS.sx0.cons hS (by (repeat constructor))).cons hS (by (repeat constructor))) (fun _ _ _ _ => trivial) (fun hHeld => ?_)
        focus (refine takeN 0 (v := ?_) rfl (by kernel_rfl) ?_ ?_; rotate_left; focus (intro w hSw; clear hSw; go_simp; try with_reducible rfl))
        try simp only [Act.put, nz1, nz2, nz3]
        refine takeN 1 rfl (by kernel_rfl) (yield_load rfl Try.underlying42 rfl rfl (by (first | (apply FindX.box; (· (repeat constructor)); rfl) | exact FindX.mem (by assumption)))) ?_
        try simp only [Act.put, nz1, nz2, nz3]
        focus (refine takeN 2 (v := ?_) rfl (by kernel_rfl) ?_ ?_; rotate_left; focus (intro w hSw; clear hSw; go_simp; try with_reducible rfl))
        try simp only [Act.put, nz1, nz2, nz3]
        focus (refine takeN 3 (v := ?_) rfl (by kernel_rfl) ?_ ?_; rotate_left; focus (intro w hSw; clear hSw; go_simp; try with_reducible rfl))
        try simp only [Act.put, nz1, nz2, nz3]
        refine takeN 4 rfl (by kernel_rfl) (yield_load rfl Try.underlying22 rfl rfl (by (first | (apply FindX.box; (· (repeat constructor)); rfl) | exact FindX.mem (by assumption)))) ?_
        try simp only [Act.put, nz1, nz2, nz3]
        refine wpAnyH_ready (rs := [5]) (by kernel_rfl) (by simp) ?_
        refine consL 5 rfl (fun K hK => ?_) AllReadyH.nil
        rw [if_pos (by rfl)]; go_simp; refine (bclone_c _ _ hS.inw _ HV.out).mono ?_; rintro e' w26 ⟨q26, c26, news26, rfl, hc26, hk26⟩; replace hS := hS.callOwn hk26; clear hk26; go_wp2_with fail
        refine hK.out _ _ (by first | exact ((hS.sx0.cons hS (by (repeat constructor))).cons hS (by (repeat constructor))) | exact Sx.le (by assumption) ((hS.sx0.cons hS (by (repeat constructor))).cons hS (by (repeat constructor)))) (fun hHeld => ?_)
        clear hK K
        try simp only [Act.put, nz1, nz2, nz3]
        focus (refine takeN 6 (v := ?_) rfl (by kernel_rfl) ?_ ?_; rotate_left; focus (intro w hSw; clear hSw; go_simp; try with_reducible rfl))
        try simp only [Act.put, nz1, nz2, nz3]
        focus (refine takeN 7 (v := ?_) rfl (by kernel_rfl) ?_ ?_; rotate_left; focus (intro w hSw; clear hSw; go_simp; try with_reducible rfl))
        try simp only [Act.put, nz1, nz2, nz3]
        refine wpAnyH_ready (rs := [8]) (by kernel_rfl) (by simp) ?_
        refine consL 8 rfl (fun K hK => ?_) AllReadyH.nil
        (with_reducible apply s_storeR hS); (· exact ⟨_, Try.underlying22, rfl, by kernel_rfl⟩); (· exact rfl); (· (first | (go_simp; done) | (go_simp; with_reducible rfl))); (· rfl); (· (repeat constructor)); (· exact HL.out); clear hS; intro ws hS
        refine hK.out _ _ (by first | exact ((hS.sx0.cons hS (by (repeat constructor))).cons hS (by (repeat constructor))) | exact Sx.le (by assumption) ((hS.sx0.cons hS (by (repeat constructor))).cons hS (by (repeat constructor)))) (fun hHeld => ?_)
        clear hK K
        try simp only [Act.put, nz1, nz2, nz3]
        refine wpAnyH_done (by kernel_rfl) ?_ _
        refine NoPanic.normal ?_
        go_wp2_with (first 
    | ((with_reducible apply l_box (ty := 44) (y := (.tmp 0)) hS); (· (first | (go_simp; done) | (go_simp; with_reducible rfl))); (· exact rfl); clear hS; intro w1 b1 hS)
    | ((with_reducible apply l_alloc (ty := 44) (dst := some 2) hS (.agg #[.slice none 0 0, .slice none 0 0, .int .i64 0, .bool false]) [.slice none 0 0, .slice none 0 0, .int .i64 0, .bool false]); (· kernel_rfl); (· rfl); clear hS; intro w2 b2 hS)
    | ((with_reducible apply l_alloc (ty := 102) (dst := some 4) hS (.agg #[.int .i64 0, .slice none 0 0]) [.int .i64 0, .slice none 0 0]); (· kernel_rfl); (· rfl); clear hS; intro w4 b4 hS)
    | ((with_reducible apply l_load hS); (· (first | exact Try.underlying22 | exact Try.underlying42)); (· exact rfl); (· exact rfl); (· (first | (apply Find.box; (· (repeat constructor)); rfl) | exact Find.mem (by assumption) | (apply Find.row; (· (repeat constructor)); assumption))))
    | ((with_reducible apply g_load hS); (· (first | exact Try.underlying22 | exact Try.underlying42)); (· exact rfl); (· (first | rfl | (go_simp; done))); (· exact rfl); (· (first | (apply Find.box; (· (repeat constructor)); rfl) | exact Find.mem (by assumption) | (apply Find.row; (· (repeat constructor)); assumption))))
    | ((with_reducible apply l_loads hS); (· (first | exact rowT44 | exact rowT102)); (· exact rfl); (· (first | (apply Finds.box; (· (repeat constructor)); (· (repeat constructor)); done) | (refine Finds.mem2 (by assumption) ?_; first | rfl | assumption | (simp; done)) | (apply Finds.row; (· (repeat constructor)); (· assumption); (· rfl)))))
    | ((with_reducible apply g_loads hS); (· (first | exact rowT44 | exact rowT102)); (· (first | rfl | (go_simp; done))); (· exact rfl); (· (first | (apply Finds.box; (· (repeat constructor)); (· (repeat constructor)); done) | (refine Finds.mem2 (by assumption) ?_; first | rfl | assumption | (simp; done)) | (apply Finds.row; (· (repeat constructor)); (· assumption); (· rfl)))))
    | ((with_reducible apply l_store hS); (· (first | exact rowT22 | exact rowT42)); (· exact rfl); (· (first | (go_simp; done) | (go_simp; with_reducible rfl))); (· (first | rfl | assumption | (simp [Value.oneCell']; done))); (· (repeat constructor)); (· (repeat constructor)); (· (repeat constructor)); clear hS; intro ws hS)
    | ((with_reducible apply l_storeR hS); (· (first | exact rowT22 | exact rowT42)); (· exact rfl); (· (first | (go_simp; done) | (go_simp; with_reducible rfl))); (· (first | rfl | assumption | (simp [Value.oneCell']; done))); (· (repeat constructor)); (· (first | assumption | omega | (simp; omega))); clear hS; intro ws hS)
    | ((with_reducible apply l_stores hS); (· (first | exact rowT44 | exact rowT102)); (· exact rfl); (· exact rfl); (· exact rfl); (· (first | assumption | (simp [Value.oneCell']; done))); (· (repeat constructor)); (· (repeat constructor)); (· (repeat constructor)); clear hS; intro ws hS))
        go_roundw
        case rel =>
          obtain ⟨m2, hS2, hle2, hrd⟩ := hS.settleRow (L := u8L) 0 rfl hc26 HB.out
          replace hS2 := hS2.forget (x := .box b4 _) (by (repeat constructor))
          exact ⟨k + 1, _, m2, hlt, by go_num, hle.trans hle2, HS.out m2 _ hle2 hrd, (hS2.front (x := .row 102 _ _ _ _) (by (repeat constructor))).front (x := .row 5 _ _ _ _) (by (repeat constructor))⟩
        case measure => simp [intOf]; omega
      · obtain rfl : k = d.wet.length := by omega
        have HG := Lib.hid hcells
        clear hcells
        go_wp2_with (first 
    | ((with_reducible apply l_box (ty := 44) (y := (.tmp 0)) hS); (· (first | (go_simp; done) | (go_simp; with_reducible rfl))); (· exact rfl); clear hS; intro w1 b1 hS)
    | ((with_reducible apply l_alloc (ty := 44) (dst := some 2) hS (.agg #[.slice none 0 0, .slice none 0 0, .int .i64 0, .bool false]) [.slice none 0 0, .slice none 0 0, .int .i64 0, .bool false]); (· kernel_rfl); (· rfl); clear hS; intro w2 b2 hS)
    | ((with_reducible apply l_alloc (ty := 102) (dst := some 4) hS (.agg #[.int .i64 0, .slice none 0 0]) [.int .i64 0, .slice none 0 0]); (· kernel_rfl); (· rfl); clear hS; intro w4 b4 hS)
    | ((with_reducible apply l_load hS); (· (first | exact Try.underlying22 | exact Try.underlying42)); (· exact rfl); (· exact rfl); (· (first | (apply Find.box; (· (repeat constructor)); rfl) | exact Find.mem (by assumption) | (apply Find.row; (· (repeat constructor)); assumption))))
    | ((with_reducible apply g_load hS); (· (first | exact Try.underlying22 | exact Try.underlying42)); (· exact rfl); (· (first | rfl | (go_simp; done))); (· exact rfl); (· (first | (apply Find.box; (· (repeat constructor)); rfl) | exact Find.mem (by assumption) | (apply Find.row; (· (repeat constructor)); assumption))))
    | ((with_reducible apply l_loads hS); (· (first | exact rowT44 | exact rowT102)); (· exact rfl); (· (first | (apply Finds.box; (· (repeat constructor)); (· (repeat constructor)); done) | (refine Finds.mem2 (by assumption) ?_; first | rfl | assumption | (simp; done)) | (apply Finds.row; (· (repeat constructor)); (· assumption); (· rfl)))))
    | ((with_reducible apply g_loads hS); (· (first | exact rowT44 | exact rowT102)); (· (first | rfl | (go_simp; done))); (· exact rfl); (· (first | (apply Finds.box; (· (repeat constructor)); (· (repeat constructor)); done) | (refine Finds.mem2 (by assumption) ?_; first | rfl | assumption | (simp; done)) | (apply Finds.row; (· (repeat constructor)); (· assumption); (· rfl)))))
    | ((with_reducible apply l_store hS); (· (first | exact rowT22 | exact rowT42)); (· exact rfl); (· (first | (go_simp; done) | (go_simp; with_reducible rfl))); (· (first | rfl | assumption | (simp [Value.oneCell']; done))); (· (repeat constructor)); (· (repeat constructor)); (· (repeat constructor)); clear hS; intro ws hS)
    | ((with_reducible apply l_storeR hS); (· (first | exact rowT22 | exact rowT42)); (· exact rfl); (· (first | (go_simp; done) | (go_simp; with_reducible rfl))); (· (first | rfl | assumption | (simp [Value.oneCell']; done))); (· (repeat constructor)); (· (first | assumption | omega | (simp; omega))); clear hS; intro ws hS)
    | ((with_reducible apply l_stores hS); (· (first | exact rowT44 | exact rowT102)); (· exact rfl); (· exact rfl); (· exact rfl); (· (first | assumption | (simp [Value.oneCell']; done))); (· (repeat constructor)); (· (repeat constructor)); (· (repeat constructor)); clear hS; intro ws hS))
        (try simp only [Exit.inBlock, Exit.then])
        refine ret_cell (n := 4) rfl rfl hS (by (repeat constructor)) (by rfl) dkRow rfl ?_
        exact ⟨_, _, _, m', rfl, HG.out, (hS.forget (x := .box b1 _) (by (repeat constructor))).forget (x := .box b2 _) (by (repeat constructor))⟩
end Go.Proofs.Ytnmgiiaejpaeeaa
/- What a call is lent; disk.settle over the state of a walk. -/
namespace Go.Proofs.Ytnmgiiaejpaeeaa
set_option linter.unusedVariables false
set_option linter.unusedSimpArgs false
open Go.RowKit Go.Shelf
section
variable {X X0 : List Nat} {w0 w w' : World} {m0 m m' : Mem} {es ls ls' rest : List Ent}
theorem Ent.ok.same {x : Ent} (h : x.ok w) (hs : ∀ b, x.blk = some b → w'.heap[b]? = w.heap[b]?) : x.ok w' := by
  cases x with
  | box b cs =>
    obtain ⟨t, ht⟩ := h
    exact ⟨t, (hs b rfl).trans ht⟩
  | row e size v n xs =>
    refine ⟨h.1, ?_⟩
    rcases h.2 with h2 | ⟨g, cap, cur, rfl, hb, hg, r⟩
    · exact .inl h2
    · exact .inr ⟨g, cap, cur, rfl, hb, (hs g rfl).trans hg, r⟩
theorem St.sub (h : St X0 w0 m0 w (ls ++ rest) m) : St (ls.filterMap Ent.blk) w m w ls m := by
  have hd := h.drop ls (List.sublist_append_left _ _)
  exact ⟨Kept.refl _ _, fun x hx => ⟨(hd.has x hx).1, fun b hb => .inr (List.mem_filterMap.2 ⟨x, hx, hb⟩)⟩, hd.apart, hd.know, Mem.Le.refl _, fun a v hv => .inl hv⟩
theorem St.subGe (h : St [] w0 m0 w (ls ++ rest) m) : ∀ b, b ∈ ls.filterMap Ent.blk → w0.heap.size ≤ b := fun b hb => by
  obtain ⟨x, hx, e⟩ : ∃ x ∈ ls, x.blk = some b := by simpa using hb
  simpa using (h.has x (List.mem_append.2 (.inl hx))).2 b e
/-- While things are lent, the others, and what is known, stay. -/
theorem St.keptRest {W : World} (h : St X0 w0 m0 w (ls ++ rest) m) (hk : Kept (ls.filterMap Ent.blk) w W) : (∀ y ∈ rest, y.ok W) ∧ m.In W := by
  have hX : ∀ b, b ∈ ls.filterMap Ent.blk → ∃ x ∈ ls, x.blk = some b := fun b hb => by simpa using hb
  have hap := List.pairwise_append.1 h.apart
  refine ⟨fun y hy => Ent.ok.same (h.has y (List.mem_append.2 (.inr hy))).1 fun b hb => hk.block b ((h.has y (List.mem_append.2 (.inr hy))).1.lt b hb) fun hm => ?_, fun a v hv => ?_⟩
  · obtain ⟨x, hx, e⟩ := hX b hm
    exact hap.2.2 x hx y hy b e hb
  · obtain ⟨h1, h2⟩ := h.know a v hv
    refine (World.cell?_of_block (hk.block _ (World.block_lt_of_cell? w a h1) fun hm => ?_)).trans h1
    obtain ⟨x, hx, e⟩ := hX _ hm
    exact h2 x (List.mem_append.2 (.inl hx)) e
/-- A call that is lent things: what came of them. -/
theorem St.lendL (h : St X0 w0 m0 w (ls ++ rest) m) (k : St (ls.filterMap Ent.blk) w m w' ls' m') : St X0 w0 m0 w' (ls' ++ rest) m' := by
  have hX : ∀ b, b ∈ ls.filterMap Ent.blk → ∃ x ∈ ls, x.blk = some b := fun b hb => by simpa using hb
  have hold : ∀ b, b < w0.heap.size → b ∉ X0 → b ∉ ls.filterMap Ent.blk := fun b hb hX0 hm => by
    obtain ⟨x, hx, e⟩ := hX b hm
    rcases (h.has x (List.mem_append.2 (.inl hx))).2 b e with h1 | h1
    · omega
    · exact hX0 h1
  have hap := List.pairwise_append.1 h.apart
  have hrest : ∀ y ∈ rest, ∀ b, y.blk = some b → b < w.heap.size ∧ b ∉ ls.filterMap Ent.blk := fun y hy b hb => ⟨(h.has y (List.mem_append.2 (.inr hy))).1.lt b hb, fun hm => by
    obtain ⟨x, hx, e⟩ := hX b hm
    exact hap.2.2 x hx y hy b e hb⟩
  refine ⟨⟨k.kept.os.trans h.kept.os, k.kept.tape.trans h.kept.tape, k.kept.output.trans h.kept.output, Nat.le_trans h.kept.size k.kept.size, fun b hb hn => (k.kept.block b (Nat.lt_of_lt_of_le hb h.kept.size) (hold b hb hn)).trans (h.kept.block b hb hn)⟩, fun x hx => ?_, ?_, fun a v hv => ⟨(k.know a v hv).1, fun x hx e => ?_⟩, h.le.trans k.le, fun a v hv => ?_⟩
  · rcases List.mem_append.1 hx with hx | hx
    · refine ⟨(k.has x hx).1, fun b hb => ?_⟩
      rcases (k.has x hx).2 b hb with h1 | h1
      · exact .inl (Nat.le_trans h.kept.size h1)
      · obtain ⟨y, hy, e⟩ := hX b h1
        exact (h.has y (List.mem_append.2 (.inl hy))).2 b e
    · exact ⟨Ent.ok.same (h.has x (List.mem_append.2 (.inr hx))).1 fun b hb => k.kept.block b (hrest x hx b hb).1 (hrest x hx b hb).2, (h.has x (List.mem_append.2 (.inr hx))).2⟩
  · refine List.pairwise_append.2 ⟨k.apart, hap.2.1, fun x hx y hy b h1 h2 => ?_⟩
    rcases (k.has x hx).2 b h1 with h3 | h3
    · have := (hrest y hy b h2).1; omega
    · exact (hrest y hy b h2).2 h3
  · rcases List.mem_append.1 hx with hx | hx
    · exact (k.know a v hv).2 x hx e
    · rcases k.new a v hv with h1 | h1 | h1
      · exact (h.know a v h1).2 x (List.mem_append.2 (.inr hx)) e
      · have := (hrest x hx _ e).1; omega
      · exact (hrest x hx _ e).2 h1
  · rcases k.new a v hv with h1 | h1 | h1
    · exact h.new a v h1
    · exact .inr (.inl (Nat.le_trans h.kept.size h1))
    · obtain ⟨x, hx, e⟩ := hX _ h1
      exact .inr ((h.has x (List.mem_append.2 (.inl hx))).2 _ e)
end
set_option maxRecDepth 100000 in
set_option maxHeartbeats 4000000 in
theorem settle_c (X : List Nat) (m : Mem) (w : World) (T gd cd : Nat) (vq : Value) (fv bv : Value) (d : Dk) (hS : St X w m w [.box T [.slice (some ⟨gd, 0, none⟩) d.dry.length cd, vq, fv, bv], .row 5 1 (.slice (some ⟨gd, 0, none⟩) d.dry.length cd) d.dry.length (d.dry.map (.int .u8))] m)
    (hq : wrL.list.rd m [vq] d.wet) (hp : Placed d) (hd : d.dry.length ≤ 262144) (hx : d.wet.length ≤ 8192) (gf : Nat) (lb : Array Value) (eg : Enters Try.prog gf) (many : Nat → Nat) (hmany : ∀ i, many i ≤ 32)
    (hm : ∀ (k : Nat) W, Kept X w W → k < d.wet.length → Calls Try.prog gf (#[.int .i64 k] ++ lb) W fun e' W' => e' = .returned (.int .i64 (many k)) ∧ W = W') :
    Calls Try.prog 75 #[.pointer (some ⟨T, 0, none⟩), .func (.func gf) #[] lb] w fun e w' => e = .returned (.tuple #[]) ∧
      St X w m w' [.box T [.slice (some ⟨gd, 0, none⟩) d.dry.length cd, .slice none 0 0, fv, bv], .row 5 1 (.slice (some ⟨gd, 0, none⟩) d.dry.length cd) d.dry.length ((settleAt many 0 d.wet d.dry).map (.int .u8))] m := by
  obtain ⟨pq, cq, rfl, q1, q2, q3, q4⟩ := Lay.list_open hq
  have H4 := Lib.hid q4
  have HP := Lib.hid hp
  have HM := Lib.hid hm
  have HMN := Lib.hid hmany
  have HDL := Lib.hid hd
  simp only [maxLen] at q2
  unfold Enters at eg
  clear hq q3 q4 hp hm hmany hd
  go_enter Try.func75, Try.ntmps75
  go_wp2_with (first 
    | ((with_reducible apply l_alloc (ty := 102) (dst := some 5) hS (.agg #[.int .i64 0, .slice none 0 0]) [.int .i64 0, .slice none 0 0]); (· kernel_rfl); (· rfl); clear hS; intro w5 b5 hS)
    | ((with_reducible apply l_load hS); (· (first | exact Try.underlying3 | exact Try.underlying22 | exact Try.underlying42)); (· exact rfl); (· exact rfl); (· (first | (apply Find.box; (· (repeat constructor)); rfl) | exact Find.mem (by assumption) | (apply Find.row; (· (repeat constructor)); assumption))))
    | ((with_reducible apply g_load hS); (· (first | exact Try.underlying3 | exact Try.underlying22 | exact Try.underlying42)); (· exact rfl); (· (first | rfl | (go_simp; done))); (· exact rfl); (· (first | (apply Find.box; (· (repeat constructor)); rfl) | exact Find.mem (by assumption) | (apply Find.row; (· (repeat constructor)); assumption))))
    | ((with_reducible apply l_loads hS); (· (first | exact rowT102)); (· exact rfl); (· (first | (apply Finds.box; (· (repeat constructor)); (· (repeat constructor)); done) | (refine Finds.mem2 (by assumption) ?_; first | rfl | assumption | (simp; done)) | (apply Finds.row; (· (repeat constructor)); (· assumption); (· rfl)))))
    | ((with_reducible apply g_loads hS); (· (first | exact rowT102)); (· (first | rfl | (go_simp; done))); (· exact rfl); (· (first | (apply Finds.box; (· (repeat constructor)); (· (repeat constructor)); done) | (refine Finds.mem2 (by assumption) ?_; first | rfl | assumption | (simp; done)) | (apply Finds.row; (· (repeat constructor)); (· assumption); (· rfl)))))
    | ((with_reducible apply l_store hS); (· (first | exact rowT42)); (· exact rfl); (· (first | (go_simp; done) | (go_simp; with_reducible rfl))); (· (first | rfl | assumption | (simp [Value.oneCell']; done))); (· (repeat constructor)); (· (repeat constructor)); (· (repeat constructor)); clear hS; intro ws hS)
    | ((with_reducible apply l_storeR hS); (· (first | exact rowT42)); (· exact rfl); (· (first | (go_simp; done) | (go_simp; with_reducible rfl))); (· (first | rfl | assumption | (simp [Value.oneCell']; done))); (· (repeat constructor)); (· (first | assumption | omega | (simp; omega))); clear hS; intro ws hS)
    | ((with_reducible apply l_stores hS); (· (first | exact rowT102)); (· exact rfl); (· exact rfl); (· exact rfl); (· (first | assumption | (simp [Value.oneCell']; done))); (· (repeat constructor)); (· (repeat constructor)); (· (repeat constructor)); clear hS; intro ws hS))
  go_loopw [11] (fun i wr => ∃ k : Nat, k ≤ d.wet.length ∧ i = .int .i64 k ∧ St X w m wr [.box T [.slice (some ⟨gd, 0, none⟩) d.dry.length cd, .slice pq d.wet.length cq, fv, bv], .row 5 1 (.slice (some ⟨gd, 0, none⟩) d.dry.length cd) d.dry.length ((settleAt many 0 (d.wet.take k) d.dry).map (.int .u8))] m) (fun i _ => d.wet.length - (intOf i).toNat)
  case atStart => exact ⟨0, Nat.zero_le _, rfl, hS⟩
  case round =>
    clear hS
    obtain ⟨k, hk, rfl, hS⟩ := hrel
    by_cases hlt : k < d.wet.length
    · obtain ⟨b, o, cs, rfl, hx, hg⟩ := H4.out.get k hlt
      obtain ⟨v, rfl, hpk, hv⟩ := wrL_open hx
      obtain ⟨z1, z2, z3⟩ := HP.out _ (List.getElem_mem hlt)
      obtain ⟨p, hp⟩ : ∃ p : Nat, d.wet[k].pos = p := ⟨d.wet[k].pos.toNat, by omega⟩
      obtain ⟨q, c, rfl, x1, x2, x3, x4⟩ := Lay.list_open hv
      rw [hp] at hg hpk z2
      rw [z3] at hg hv
      have hg' : ∀ j v, [.int .i64 (p : Int), .slice q 32 c][j]? = some v → m ⟨b, o + k * 2 + j, none⟩ = some v := hg
      have HV := Lib.hid hv
      have HZ := Lib.hid z3
      have HPP := Lib.hid hp
      obtain ⟨gg, eg1, g1, g2⟩ := row_head (hS.row 1 rfl) (by omega)
      have y1 : (p + 1) * 32 ≤ d.dry.length := by simpa using z2
      have HL := Lib.hid (settleAt_length many d.dry.length HMN.out (d.wet.take k) 0 d.dry rfl fun x hx => (HP.out x (List.mem_of_mem_take hx)).2)
      have HB : Hid (settleAt many 0 (d.wet.take (k + 1)) d.dry = splice (settleAt many 0 (d.wet.take k) d.dry) (p * 32) (d.wet[k].b.take (many k))) := by
        show _ = _
        rw [List.take_succ_eq_append_getElem hlt, settleAt_snoc, List.length_take, Nat.min_eq_left hk, Nat.zero_add, show d.wet[k].pos.toNat * 32 = p * 32 by rw [HPP.out]; omega]
      have HM1 := Lib.hid (fun W hW => HM.out k W hW hlt)
      have hN := HMN.out k
      generalize many k = N at HM1 HB hN
      have hN2 : (N : Int) ≤ (c : Int) := by omega
      have x1' : 32 ≤ c := by omega
      simp only [maxLen] at x2
      clear hg hx hv hpk z1 z2 z3 hp x1 x3 x4 eg1
      go_wp2_with (first 
    | ((with_reducible apply l_alloc (ty := 102) (dst := some 5) hS (.agg #[.int .i64 0, .slice none 0 0]) [.int .i64 0, .slice none 0 0]); (· kernel_rfl); (· rfl); clear hS; intro w5 b5 hS)
    | ((with_reducible apply l_load hS); (· (first | exact Try.underlying3 | exact Try.underlying22 | exact Try.underlying42)); (· exact rfl); (· exact rfl); (· (first | (apply Find.box; (· (repeat constructor)); rfl) | exact Find.mem (by assumption) | (apply Find.row; (· (repeat constructor)); assumption))))
    | ((with_reducible apply g_load hS); (· (first | exact Try.underlying3 | exact Try.underlying22 | exact Try.underlying42)); (· exact rfl); (· (first | rfl | (go_simp; done))); (· exact rfl); (· (first | (apply Find.box; (· (repeat constructor)); rfl) | exact Find.mem (by assumption) | (apply Find.row; (· (repeat constructor)); assumption))))
    | ((with_reducible apply l_loads hS); (· (first | exact rowT102)); (· exact rfl); (· (first | (apply Finds.box; (· (repeat constructor)); (· (repeat constructor)); done) | (refine Finds.mem2 (by assumption) ?_; first | rfl | assumption | (simp; done)) | (apply Finds.row; (· (repeat constructor)); (· assumption); (· rfl)))))
    | ((with_reducible apply g_loads hS); (· (first | exact rowT102)); (· (first | rfl | (go_simp; done))); (· exact rfl); (· (first | (apply Finds.box; (· (repeat constructor)); (· (repeat constructor)); done) | (refine Finds.mem2 (by assumption) ?_; first | rfl | assumption | (simp; done)) | (apply Finds.row; (· (repeat constructor)); (· assumption); (· rfl)))))
    | ((with_reducible apply l_store hS); (· (first | exact rowT42)); (· exact rfl); (· (first | (go_simp; done) | (go_simp; with_reducible rfl))); (· (first | rfl | assumption | (simp [Value.oneCell']; done))); (· (repeat constructor)); (· (repeat constructor)); (· (repeat constructor)); clear hS; intro ws hS)
    | ((with_reducible apply l_storeR hS); (· (first | exact rowT42)); (· exact rfl); (· (first | (go_simp; done) | (go_simp; with_reducible rfl))); (· (first | rfl | assumption | (simp [Value.oneCell']; done))); (· (repeat constructor)); (· (first | assumption | omega | (simp; omega))); clear hS; intro ws hS)
    | ((with_reducible apply l_stores hS); (· (first | exact rowT102)); (· exact rfl); (· exact rfl); (· exact rfl); (· (first | assumption | (simp [Value.oneCell']; done))); (· (repeat constructor)); (· (repeat constructor)); (· (repeat constructor)); clear hS; intro ws hS))
      replace hS := hS.drew
      refine startL (S := Sx _ [(T, _), (b5, _)]) (by kernel_rfl) ((hS.sx0.cons hS (by (repeat constructor))).cons hS (by (repeat constructor))) (fun _ _ _ _ => trivial) (fun hHeld => ?_)
      focus (refine takeN 0 (v := ?_) rfl (by kernel_rfl) ?_ ?_; rotate_left; focus (intro w hSw; clear hSw; go_simp; try with_reducible rfl))
      try simp only [Act.put, nz1, nz2, nz3]
      focus (refine takeN 1 (v := ?_) rfl (by kernel_rfl) ?_ ?_; rotate_left; focus (intro w hSw; clear hSw; go_simp; try with_reducible rfl))
      try simp only [Act.put, nz1, nz2, nz3]
      focus (refine takeN 2 (v := ?_) rfl (by kernel_rfl) ?_ ?_; rotate_left; focus (intro w hSw; clear hSw; go_simp; try with_reducible rfl))
      try simp only [Act.put, nz1, nz2, nz3]
      refine takeN 3 rfl (by kernel_rfl) (yield_load rfl Try.underlying22 rfl rfl (by (first | (apply FindX.box; (· (repeat constructor)); rfl) | exact FindX.mem (by assumption)))) ?_
      try simp only [Act.put, nz1, nz2, nz3]
      focus (refine takeN 4 (v := ?_) rfl (by kernel_rfl) ?_ ?_; rotate_left; focus (intro w hSw; clear hSw; go_simp; try with_reducible rfl))
      try simp only [Act.put, nz1, nz2, nz3]
      refine takeN 5 rfl (by kernel_rfl) (yield_load rfl Try.underlying3 rfl rfl (by (first | (apply FindX.box; (· (repeat constructor)); rfl) | exact FindX.mem (by assumption)))) ?_
      try simp only [Act.put, nz1, nz2, nz3]
      focus (refine takeN 7 (v := ?_) rfl (by kernel_rfl) ?_ ?_; rotate_left; focus (intro w hSw; clear hSw; go_simp; try with_reducible rfl))
      try simp only [Act.put, nz1, nz2, nz3]
      refine takeN 8 rfl (by kernel_rfl) (yield_load rfl Try.underlying22 rfl rfl (by (first | (apply FindX.box; (· (repeat constructor)); rfl) | exact FindX.mem (by assumption)))) ?_
      try simp only [Act.put, nz1, nz2, nz3]
      focus (refine takeN 9 (v := ?_) rfl (by kernel_rfl) ?_ ?_; rotate_left; focus (intro w hSw; clear hSw; go_simp; try with_reducible rfl))
      try simp only [Act.put, nz1, nz2, nz3]
      focus (refine takeN 10 (v := ?_) rfl (by kernel_rfl) ?_ ?_; rotate_left; focus (intro w hSw; clear hSw; go_simp; try with_reducible rfl))
      try simp only [Act.put, nz1, nz2, nz3]
      refine wpAnyH_ready (rs := [6]) (by kernel_rfl) (by simp) ?_
      refine consL 6 rfl (fun K hK => ?_) AllReadyH.nil
      rw [if_pos (by rfl)]; go_simp; refine (cut_any gd 0 d.dry.length cd p _ y1 g1 g2).mono ?_; rintro e' w22 ⟨rfl, rfl⟩; rw [Nat.zero_add]; go_wp2_with fail
      refine hK.out _ _ (by first | exact ((hS.sx0.cons hS (by (repeat constructor))).cons hS (by (repeat constructor))) | exact Sx.le (by assumption) ((hS.sx0.cons hS (by (repeat constructor))).cons hS (by (repeat constructor)))) (fun hHeld => ?_)
      clear hK K
      try simp only [Act.put, nz1, nz2, nz3]
      refine wpAnyH_ready (rs := [11]) (by kernel_rfl) (by simp) ?_
      refine consL 11 rfl (fun K hK => ?_) AllReadyH.nil
      rw [if_pos (by rfl)]; go_simp; refine (HM1.out _ hS.kept).mono ?_; rintro e' w27 ⟨rfl, rfl⟩; go_wp2_with fail
      refine hK.out _ _ (by first | exact ((hS.sx0.cons hS (by (repeat constructor))).cons hS (by (repeat constructor))) | exact Sx.le (by assumption) ((hS.sx0.cons hS (by (repeat constructor))).cons hS (by (repeat constructor)))) (fun hHeld => ?_)
      clear hK K
      try simp only [Act.put, nz1, nz2, nz3]
      focus (refine takeN 12 (v := ?_) rfl (by kernel_rfl) ?_ ?_; rotate_left; focus (intro w hSw; clear hSw; go_simp; try with_reducible rfl))
      try simp only [Act.put, nz1, nz2, nz3]
      refine wpAnyH_ready (rs := [13]) (by kernel_rfl) (by simp) ?_
      refine consL 13 rfl (fun K hK => ?_) AllReadyH.nil
      (with_reducible apply s_copyR hS Try.underlying22 (by kernel_rfl)); (· exact rfl); (· (repeat constructor)); (· exact HL.out); (· exact rfl); (· exact rdL_take HV.out _ (by omega)); (· rw [List.length_take]; omega); (· omega); clear hS; intro w29 hS
      refine hK.out _ _ (by first | exact ((hS.sx0.cons hS (by (repeat constructor))).cons hS (by (repeat constructor))) | exact Sx.le (by assumption) ((hS.sx0.cons hS (by (repeat constructor))).cons hS (by (repeat constructor)))) (fun hHeld => ?_)
      clear hK K
      try simp only [Act.put, nz1, nz2, nz3]
      refine wpAnyH_done (by kernel_rfl) ?_ _
      refine NoPanic.normal ?_
      all_goals
        go_wp2_with (first 
    | ((with_reducible apply l_alloc (ty := 102) (dst := some 5) hS (.agg #[.int .i64 0, .slice none 0 0]) [.int .i64 0, .slice none 0 0]); (· kernel_rfl); (· rfl); clear hS; intro w5 b5 hS)
    | ((with_reducible apply l_load hS); (· (first | exact Try.underlying3 | exact Try.underlying22 | exact Try.underlying42)); (· exact rfl); (· exact rfl); (· (first | (apply Find.box; (· (repeat constructor)); rfl) | exact Find.mem (by assumption) | (apply Find.row; (· (repeat constructor)); assumption))))
    | ((with_reducible apply g_load hS); (· (first | exact Try.underlying3 | exact Try.underlying22 | exact Try.underlying42)); (· exact rfl); (· (first | rfl | (go_simp; done))); (· exact rfl); (· (first | (apply Find.box; (· (repeat constructor)); rfl) | exact Find.mem (by assumption) | (apply Find.row; (· (repeat constructor)); assumption))))
    | ((with_reducible apply l_loads hS); (· (first | exact rowT102)); (· exact rfl); (· (first | (apply Finds.box; (· (repeat constructor)); (· (repeat constructor)); done) | (refine Finds.mem2 (by assumption) ?_; first | rfl | assumption | (simp; done)) | (apply Finds.row; (· (repeat constructor)); (· assumption); (· rfl)))))
    | ((with_reducible apply g_loads hS); (· (first | exact rowT102)); (· (first | rfl | (go_simp; done))); (· exact rfl); (· (first | (apply Finds.box; (· (repeat constructor)); (· (repeat constructor)); done) | (refine Finds.mem2 (by assumption) ?_; first | rfl | assumption | (simp; done)) | (apply Finds.row; (· (repeat constructor)); (· assumption); (· rfl)))))
    | ((with_reducible apply l_store hS); (· (first | exact rowT42)); (· exact rfl); (· (first | (go_simp; done) | (go_simp; with_reducible rfl))); (· (first | rfl | assumption | (simp [Value.oneCell']; done))); (· (repeat constructor)); (· (repeat constructor)); (· (repeat constructor)); clear hS; intro ws hS)
    | ((with_reducible apply l_storeR hS); (· (first | exact rowT42)); (· exact rfl); (· (first | (go_simp; done) | (go_simp; with_reducible rfl))); (· (first | rfl | assumption | (simp [Value.oneCell']; done))); (· (repeat constructor)); (· (first | assumption | omega | (simp; omega))); clear hS; intro ws hS)
    | ((with_reducible apply l_stores hS); (· (first | exact rowT102)); (· exact rfl); (· exact rfl); (· exact rfl); (· (first | assumption | (simp [Value.oneCell']; done))); (· (repeat constructor)); (· (repeat constructor)); (· (repeat constructor)); clear hS; intro ws hS))
        go_roundw
        case rel => exact ⟨k + 1, hlt, by go_num, by rw [HB.out]; exact (hS.forget (x := .box b5 _) (by (repeat constructor)))⟩
        case measure => simp [intOf]; omega
    · obtain rfl : k = d.wet.length := by omega
      rw [List.take_length] at hS
      go_wp2_with (first 
    | ((with_reducible apply l_alloc (ty := 102) (dst := some 5) hS (.agg #[.int .i64 0, .slice none 0 0]) [.int .i64 0, .slice none 0 0]); (· kernel_rfl); (· rfl); clear hS; intro w5 b5 hS)
    | ((with_reducible apply l_load hS); (· (first | exact Try.underlying3 | exact Try.underlying22 | exact Try.underlying42)); (· exact rfl); (· exact rfl); (· (first | (apply Find.box; (· (repeat constructor)); rfl) | exact Find.mem (by assumption) | (apply Find.row; (· (repeat constructor)); assumption))))
    | ((with_reducible apply g_load hS); (· (first | exact Try.underlying3 | exact Try.underlying22 | exact Try.underlying42)); (· exact rfl); (· (first | rfl | (go_simp; done))); (· exact rfl); (· (first | (apply Find.box; (· (repeat constructor)); rfl) | exact Find.mem (by assumption) | (apply Find.row; (· (repeat constructor)); assumption))))
    | ((with_reducible apply l_loads hS); (· (first | exact rowT102)); (· exact rfl); (· (first | (apply Finds.box; (· (repeat constructor)); (· (repeat constructor)); done) | (refine Finds.mem2 (by assumption) ?_; first | rfl | assumption | (simp; done)) | (apply Finds.row; (· (repeat constructor)); (· assumption); (· rfl)))))
    | ((with_reducible apply g_loads hS); (· (first | exact rowT102)); (· (first | rfl | (go_simp; done))); (· exact rfl); (· (first | (apply Finds.box; (· (repeat constructor)); (· (repeat constructor)); done) | (refine Finds.mem2 (by assumption) ?_; first | rfl | assumption | (simp; done)) | (apply Finds.row; (· (repeat constructor)); (· assumption); (· rfl)))))
    | ((with_reducible apply l_store hS); (· (first | exact rowT42)); (· exact rfl); (· (first | (go_simp; done) | (go_simp; with_reducible rfl))); (· (first | rfl | assumption | (simp [Value.oneCell']; done))); (· (repeat constructor)); (· (repeat constructor)); (· (repeat constructor)); clear hS; intro ws hS)
    | ((with_reducible apply l_storeR hS); (· (first | exact rowT42)); (· exact rfl); (· (first | (go_simp; done) | (go_simp; with_reducible rfl))); (· (first | rfl | assumption | (simp [Value.oneCell']; done))); (· (repeat constructor)); (· (first | assumption | omega | (simp; omega))); clear hS; intro ws hS)
    | ((with_reducible apply l_stores hS); (· (first | exact rowT102)); (· exact rfl); (· exact rfl); (· exact rfl); (· (first | assumption | (simp [Value.oneCell']; done))); (· (repeat constructor)); (· (repeat constructor)); (· (repeat constructor)); clear hS; intro ws hS))
      go_end0
      exact ⟨rfl, hS⟩
end Go.Proofs.Ytnmgiiaejpaeeaa
/- Contracts of package disk over the state of a walk: Check, alive, far, Crash, Lit, New. -/
namespace Go.Proofs.Ytnmgiiaejpaeeaa
set_option linter.unusedVariables false
set_option linter.unusedSimpArgs false
open Go.RowKit Go.Shelf
theorem ret_of_below {P : Program} {f : FuncId} {args : Array Value} {w : World} {m : Mem} {v : Value} (hm : m.In w) (h : Calls P f args w fun e w' => e = .returned v ∧ Below w.heap.size w w') : Calls P f args w (Ret w m fun v' _ => v' = v) :=
  h.mono fun e w' ⟨he, hb⟩ => ⟨v, m, he, rfl, (St.start hm).grow (grownBy_of_below hb)⟩
theorem row_rdW {m : Mem} {w : World} {p : Option Addr} {ws : List Wr} (h : Row wrL m p ws) (hm : m.In w) : RdW w p ws := fun h0 => by
  obtain ⟨b, o, e, hc⟩ := h h0
  refine ⟨b, o, e, fun i x hx => ?_⟩
  obtain ⟨cs, h1, h2⟩ := hc i x hx
  obtain ⟨v, rfl, _, hv⟩ := wrL_open h1
  obtain ⟨q, c, rfl, k1, k2, _, k4⟩ := Lay.list_open hv
  exact ⟨hm _ _ (h2 0 _ rfl), q, c, hm _ _ (h2 1 _ rfl), k1, k2, k4.rdInt hm⟩
theorem dkL_at {m : Mem} {w : World} {cs : List Value} {d : Dk} (h : dkL.rd m cs d) (hm : m.In w) : ∃ p c q e, Value.agg cs.toArray = dkV p c q e d ∧ DkAt w p c q e d := by
  obtain ⟨v0, v1, rfl, h0, h1, _⟩ := dkL_open h
  obtain ⟨p0, c0, rfl, a1, a2, _, a4⟩ := Lay.list_open h0
  obtain ⟨p1, c1, rfl, b1, b2, b3, b4⟩ := Lay.list_open h1
  exact ⟨p0, c0, p1, c1, rfl, a1, a2, b1, b2, a4.rdInt hm, row_rdW b4 hm⟩
theorem check_c (m : Mem) (w : World) (hm : m.In w) (cs : List Value) (d : Dk) (h : dkL.rd m cs d) :
    Calls Try.prog 40 #[.agg cs.toArray] w (Ret w m fun v _ => v = .int .i64 (checkE d)) := by
  obtain ⟨p, c, q, e, he, hd⟩ := dkL_at h hm
  rw [he]
  exact ret_of_below hm (check_any p c q e d w hd)
theorem alive_c (m : Mem) (w : World) (hm : m.In w) (cs : List Value) (d : Dk) (h : dkL.rd m cs d) :
    Calls Try.prog 69 #[.agg cs.toArray] w (Ret w m fun v _ => v = .int .i64 (aliveE d)) := by
  obtain ⟨p, c, q, e, he, hd⟩ := dkL_at h hm
  rw [he]
  exact ret_of_below hm (alive_any p c q e d w hd)
theorem far_c (m : Mem) (w : World) (hm : m.In w) (cs : List Value) (d : Dk) (h : dkL.rd m cs d) (k : Int) :
    Calls Try.prog 70 #[.agg cs.toArray, .int .i64 k] w (Ret w m fun v _ => v = .bool (farD d k)) := by
  obtain ⟨p, c, q, e, he, hd⟩ := dkL_at h hm
  rw [he]
  exact ret_of_below hm (far_any p c q e d k w hd)
set_option maxRecDepth 100000 in
set_option maxHeartbeats 4000000 in
theorem crash_c (m : Mem) (w : World) (hm : m.In w) (cs : List Value) (d : Dk) (h : dkL.rd m cs d) (vk : Value) (keep : List Int) (hkp : bytesL.rd m [vk] keep) :
    Calls Try.prog 38 #[.agg cs.toArray, vk] w (RetDE w m (crashD d keep) (checkE d)) := by
  have HH := Lib.hid h
  obtain ⟨v0, v1, rfl, h0, h1, _⟩ := dkL_open h
  obtain ⟨p0, c0, rfl, a1, a2, _, a4⟩ := Lay.list_open h0
  obtain ⟨p1, c1, rfl, b1, b2, b3, b4⟩ := Lay.list_open h1
  obtain ⟨pk, ck, rfl, e1, e2, e3, e4⟩ := Lay.list_open hkp
  have hS := St.start hm
  have HR := Lib.hid a4.inK
  have HO := Lib.hid (row_octets b4)
  have HE4 := Lib.hid e4
  have HKB := Lib.hid (⟨e1, e2, inK_isB e4.inK⟩ : keep.length ≤ ck ∧ ck ≤ maxLen ∧ IsB keep)
  clear h h0 h1 b3 a1 a2 a4 b1 b2 b4 hkp e1 e2 e3 e4
  have ec := enters_of Try.func78 (by kernel_rfl) rfl
  rcases checkE_cases d with ⟨hE, hok⟩ | ⟨hE, hok⟩
  all_goals
    have HE := Lib.hid hE
    have HK := Lib.hid hok
    clear hE hok
    go_enter Try.func38, Try.ntmps38
    go_wp2_with (first 
    | ((with_reducible apply l_box (ty := 44) (y := (.tmp 0)) hS); (· (first | (go_simp; done) | (go_simp; with_reducible rfl))); (· exact rfl); clear hS; intro w2 b2 hS)
    | ((with_reducible apply l_box (ty := 22) (y := (.tmp 1)) hS); (· (first | (go_simp; done) | (go_simp; with_reducible rfl))); (· exact rfl); clear hS; intro w3 b3 hS)
    | ((with_reducible apply l_alloc (ty := 44) (dst := some 4) hS (.agg #[.slice none 0 0, .slice none 0 0, .int .i64 0, .bool false]) [.slice none 0 0, .slice none 0 0, .int .i64 0, .bool false]); (· kernel_rfl); (· rfl); clear hS; intro w4 b4 hS)
    | ((with_reducible apply l_loads hS); (· (first | exact rowT44)); (· exact rfl); (· (first | (apply Finds.box; (· (repeat constructor)); (· (repeat constructor)); done) | (refine Finds.mem2 (by assumption) ?_; first | rfl | assumption | (simp; done)) | (apply Finds.row; (· (repeat constructor)); (· assumption); (· rfl)))))
    | ((with_reducible apply g_loads hS); (· (first | exact rowT44)); (· (first | rfl | (go_simp; done))); (· exact rfl); (· (first | (apply Finds.box; (· (repeat constructor)); (· (repeat constructor)); done) | (refine Finds.mem2 (by assumption) ?_; first | rfl | assumption | (simp; done)) | (apply Finds.row; (· (repeat constructor)); (· assumption); (· rfl)))))
    | ((with_reducible apply l_store hS); (· (first | exact rowT3 | exact rowT4)); (· exact rfl); (· (first | (go_simp; done) | (go_simp; with_reducible rfl))); (· (first | rfl | assumption | (simp [Value.oneCell']; done))); (· (repeat constructor)); (· (repeat constructor)); (· (repeat constructor)); clear hS; intro ws hS)
    | ((with_reducible apply l_storeR hS); (· (first | exact rowT3 | exact rowT4)); (· exact rfl); (· (first | (go_simp; done) | (go_simp; with_reducible rfl))); (· (first | rfl | assumption | (simp [Value.oneCell']; done))); (· (repeat constructor)); (· (first | assumption | omega | (simp; omega))); clear hS; intro ws hS)
    | ((with_reducible apply l_stores hS); (· (first | exact rowT44)); (· exact rfl); (· exact rfl); (· exact rfl); (· (first | assumption | (simp [Value.oneCell']; done))); (· (repeat constructor)); (· (repeat constructor)); (· (repeat constructor)); clear hS; intro ws hS)
      | (go_at_call 40; refine (check_c _ _ hS.inw _ _ HH.out).mono ?_; rintro e' w11 ⟨v11, m5, rfl, rfl, hk⟩; rw [HE.out]; replace hS := hS.call hk; have hle := hk.le; clear hk)
      | (go_at_call 77; refine (own_c _ _ hS.inw _ _ (dkL.mono hle HH.out)).mono ?_; rintro e' w15 ⟨vd, vq, cells, m6, rfl, hc, hk⟩; replace hS := hS.callOwn hk; have hle6 := hk.le; simp only [List.cons_append, List.nil_append] at hS; obtain ⟨qd, cd, rfl⟩ := row_form (hS.row 0 rfl); obtain ⟨m7, hS7, hle7, hq7⟩ := hS.settleRow (L := wrL) 1 rfl hc (ok_big HK.out).2; replace hS := hS7; simp only [List.eraseIdx_cons_succ, List.eraseIdx_cons_zero] at hS; obtain ⟨qq, cq, rfl, _⟩ := Lay.list_open hq7; have HQ7 := Lib.hid hq7; obtain ⟨gd, rfl, _⟩ := row_head (hS.row 0 rfl) (by have := HK.out.1; omega); clear hc hk hS7 hq7))
  · replace hS := (hS.front (x := .row 5 1 _ _ _) (by (repeat constructor))).front (x := .box b2 _) (by (repeat constructor))
    have hsub := St.sub (ls := [_, _]) hS
    have hrest := fun W => St.keptRest (ls := [_, _]) (W := W) hS
    generalize hX : List.filterMap Ent.blk _ = X at hsub hrest
    have hcl : ∀ (k : Nat) (W : World), Kept X ws W → k < d.wet.length → Calls Try.prog 78 (#[.int .i64 k] ++ #[.pointer (some ⟨b3, 0, none⟩)]) W fun e' W' => e' = .returned (.int .i64 (keepN keep k)) ∧ W = W' := fun k W hW hk => by
      obtain ⟨r1, r2⟩ := hrest W hW
      exact crash1_any b3 pk ck keep k W (r1 (.box b3 _) (by (repeat constructor))) ((HE4.out.mono (hle.trans (hle6.trans hle7))).rdInt r2) HKB.out.2.2 HKB.out.1 HKB.out.2.1 (by have := HK.out.2.2.2.1; omega)
    refine (settle_c X _ _ _ _ _ _ _ _ d hsub HQ7.out (placed_of_ok HK.out) HK.out.2.1 HK.out.2.2.2.1 78 _ ec (keepN keep) (keepN_le keep) hcl).mono ?_
    subst hX
    rintro e' w16 ⟨rfl, hk⟩
    replace hS := St.lendL (ls := [_, _]) hS hk
    simp only [List.cons_append, List.nil_append] at hS
    clear hk
    go_wp2_with (first 
    | ((with_reducible apply l_box (ty := 44) (y := (.tmp 0)) hS); (· (first | (go_simp; done) | (go_simp; with_reducible rfl))); (· exact rfl); clear hS; intro w2 b2 hS)
    | ((with_reducible apply l_box (ty := 22) (y := (.tmp 1)) hS); (· (first | (go_simp; done) | (go_simp; with_reducible rfl))); (· exact rfl); clear hS; intro w3 b3 hS)
    | ((with_reducible apply l_alloc (ty := 44) (dst := some 4) hS (.agg #[.slice none 0 0, .slice none 0 0, .int .i64 0, .bool false]) [.slice none 0 0, .slice none 0 0, .int .i64 0, .bool false]); (· kernel_rfl); (· rfl); clear hS; intro w4 b4 hS)
    | ((with_reducible apply l_loads hS); (· (first | exact rowT44)); (· exact rfl); (· (first | (apply Finds.box; (· (repeat constructor)); (· (repeat constructor)); done) | (refine Finds.mem2 (by assumption) ?_; first | rfl | assumption | (simp; done)) | (apply Finds.row; (· (repeat constructor)); (· assumption); (· rfl)))))
    | ((with_reducible apply g_loads hS); (· (first | exact rowT44)); (· (first | rfl | (go_simp; done))); (· exact rfl); (· (first | (apply Finds.box; (· (repeat constructor)); (· (repeat constructor)); done) | (refine Finds.mem2 (by assumption) ?_; first | rfl | assumption | (simp; done)) | (apply Finds.row; (· (repeat constructor)); (· assumption); (· rfl)))))
    | ((with_reducible apply l_store hS); (· (first | exact rowT3 | exact rowT4)); (· exact rfl); (· (first | (go_simp; done) | (go_simp; with_reducible rfl))); (· (first | rfl | assumption | (simp [Value.oneCell']; done))); (· (repeat constructor)); (· (repeat constructor)); (· (repeat constructor)); clear hS; intro ws hS)
    | ((with_reducible apply l_storeR hS); (· (first | exact rowT3 | exact rowT4)); (· exact rfl); (· (first | (go_simp; done) | (go_simp; with_reducible rfl))); (· (first | rfl | assumption | (simp [Value.oneCell']; done))); (· (repeat constructor)); (· (first | assumption | omega | (simp; omega))); clear hS; intro ws hS)
    | ((with_reducible apply l_stores hS); (· (first | exact rowT44)); (· exact rfl); (· exact rfl); (· exact rfl); (· (first | assumption | (simp [Value.oneCell']; done))); (· (repeat constructor)); (· (repeat constructor)); (· (repeat constructor)); clear hS; intro ws hS))
    refine ret_cell_tmp (n := 4) rfl rfl hS (by (repeat constructor)) (by rfl) dkRow rfl ?_
    have hl : (settleAt (keepN keep) 0 d.wet d.dry).length = d.dry.length := settleAt_length (keepN keep) d.dry.length (keepN_le keep) d.wet 0 d.dry rfl fun x hx => (placed_of_ok HK.out x hx).2
    have e1 : crashD d keep = ⟨settleAt (keepN keep) 0 d.wet d.dry, [], -1, false⟩ := if_pos HK.out
    rw [e1]
    exact close_half HE.out rfl rfl (inK64 (by omega) (by omega)) (by simp only [hl]; exact hS.front (x := .row 5 1 _ _ _) (by (repeat constructor))) (settle_inK _ _ _ _ HR.out HO.out) (Lay.nil_rd _ _) (by have := HK.out.2.1; show (settleAt (keepN keep) 0 d.wet d.dry).length ≤ _; omega)
  · refine ret_cell_tmp (n := 4) rfl rfl hS (by (repeat constructor)) (by rfl) dkRow rfl ?_
    exact close_err HE.out (if_neg HK.out) hS
end Go.Proofs.Ytnmgiiaejpaeeaa
/- Contracts of package disk over the state of a walk: deed, Flush, Write, Lit, New. -/
namespace Go.Proofs.Ytnmgiiaejpaeeaa
set_option linter.unusedVariables false
set_option linter.unusedSimpArgs false
open Go.RowKit Go.Shelf
/-- What a deed does to a disk of its own that it is lent. -/
def Does (w : World) (m : Mem) (gf : Nat) (lb : Array Value) (d : Dk) (act : Dk → Dk) : Prop :=
  ∀ (X : List Nat) (W : World) (mW : Mem) (T : Nat) (qd qq : Option Addr) (cd cq : Nat) (cells : List Value) (f : Int), (∀ b, b ∈ X → w.heap.size ≤ b) → Below w.heap.size w W → m.Le mW → CellsOf wrL mW cells d.wet →
    St X W mW W [.box T [.slice qd d.dry.length cd, .slice qq d.wet.length cq, .int .i64 f, .bool d.dead], .row 5 1 (.slice qd d.dry.length cd) d.dry.length (d.dry.map (.int .u8)), .row 102 2 (.slice qq d.wet.length cq) d.wet.length cells] mW →
    Calls Try.prog gf (#[.pointer (some ⟨T, 0, none⟩)] ++ lb) W fun e W' => e = .returned (.tuple #[]) ∧ ∃ vq m', wrL.list.rd m' [vq] (act d).wet ∧ (act d).dry.length = d.dry.length ∧
      St X W mW W' [.box T [.slice qd d.dry.length cd, vq, .int .i64 f, .bool d.dead], .row 5 1 (.slice qd d.dry.length cd) d.dry.length ((act d).dry.map (.int .u8))] m'
set_option maxRecDepth 100000 in
set_option maxHeartbeats 4000000 in
theorem deed_c (m : Mem) (w : World) (hm : m.In w) (cs : List Value) (d : Dk) (h : dkL.rd m cs d) (hok : checkOK d) (gf : Nat) (lb : Array Value) (eg : Enters Try.prog gf) (act : Dk → Dk) (hdoes : Does w m gf lb d act) (hin : ∀ x ∈ (act d).dry, InK .u8 x) :
    Calls Try.prog 71 #[.agg cs.toArray, .func (.func gf) #[] lb] w (RetDE w m (deedD act d) (deedE d)) := by
  have HH := Lib.hid h
  obtain ⟨v0, v1, rfl, h0, h1, _⟩ := dkL_open h
  obtain ⟨p0, c0, rfl, a1, a2, _, a4⟩ := Lay.list_open h0
  obtain ⟨p1, c1, rfl, b1, b2, b3, b4⟩ := Lay.list_open h1
  have hS := St.start hm
  have HR := Lib.hid a4.inK
  have HO := Lib.hid (row_octets b4)
  have HD := Lib.hid hdoes
  have HI := Lib.hid hin
  have HK := Lib.hid hok
  have hf1 := hok.2.2.2.2.2.1
  have hf2 := hok.2.2.2.2.2.2
  clear h h0 h1 b3 a1 a2 a4 b1 b2 b4 hdoes hin hok
  unfold Enters at eg
  have ways : (d.fuse = 0) ∨ (d.fuse = -1) ∨ (1 ≤ d.fuse ∧ ((d.fuse == 0) = false) ∧ ((d.fuse == -1) = false)) := by
    simp only [beq_eq_false_iff_ne]; omega
  have K := fun (vd vq : Value) => ()
  rcases ways with hw | hw | ⟨hw, hw2, hw3⟩
  all_goals
    first
    | (rw [hw] at HH; have HW := Lib.hid hw; rw [hw])
    | (have HW := Lib.hid hw)
    go_enter Try.func71, Try.ntmps71
    go_wp2_with (first 
    | ((with_reducible apply l_box (ty := 44) (y := (.tmp 0)) hS); (· (first | (go_simp; done) | (go_simp; with_reducible rfl))); (· exact rfl); clear hS; intro w2 b2 hS)
    | ((with_reducible apply l_alloc (ty := 44) (dst := some 4) hS (.agg #[.slice none 0 0, .slice none 0 0, .int .i64 0, .bool false]) [.slice none 0 0, .slice none 0 0, .int .i64 0, .bool false]); (· kernel_rfl); (· rfl); clear hS; intro w4 b4 hS)
    | ((with_reducible apply l_load hS); (· (first | exact Try.underlying3)); (· exact rfl); (· exact rfl); (· (first | (apply Find.box; (· (repeat constructor)); rfl) | exact Find.mem (by assumption) | (apply Find.row; (· (repeat constructor)); assumption))))
    | ((with_reducible apply g_load hS); (· (first | exact Try.underlying3)); (· exact rfl); (· (first | rfl | (go_simp; done))); (· exact rfl); (· (first | (apply Find.box; (· (repeat constructor)); rfl) | exact Find.mem (by assumption) | (apply Find.row; (· (repeat constructor)); assumption))))
    | ((with_reducible apply l_loads hS); (· (first | exact rowT44)); (· exact rfl); (· (first | (apply Finds.box; (· (repeat constructor)); (· (repeat constructor)); done) | (refine Finds.mem2 (by assumption) ?_; first | rfl | assumption | (simp; done)) | (apply Finds.row; (· (repeat constructor)); (· assumption); (· rfl)))))
    | ((with_reducible apply g_loads hS); (· (first | exact rowT44)); (· (first | rfl | (go_simp; done))); (· exact rfl); (· (first | (apply Finds.box; (· (repeat constructor)); (· (repeat constructor)); done) | (refine Finds.mem2 (by assumption) ?_; first | rfl | assumption | (simp; done)) | (apply Finds.row; (· (repeat constructor)); (· assumption); (· rfl)))))
    | ((with_reducible apply l_store hS); (· (first | exact rowT3 | exact rowT4)); (· exact rfl); (· (first | (go_simp; done) | (go_simp; with_reducible rfl))); (· (first | rfl | assumption | (simp [Value.oneCell']; done))); (· (repeat constructor)); (· (repeat constructor)); (· (repeat constructor)); clear hS; intro ws hS)
    | ((with_reducible apply l_storeR hS); (· (first | exact rowT3 | exact rowT4)); (· exact rfl); (· (first | (go_simp; done) | (go_simp; with_reducible rfl))); (· (first | rfl | assumption | (simp [Value.oneCell']; done))); (· (repeat constructor)); (· (first | assumption | omega | (simp; omega))); clear hS; intro ws hS)
    | ((with_reducible apply l_stores hS); (· (first | exact rowT44)); (· exact rfl); (· exact rfl); (· exact rfl); (· (first | assumption | (simp [Value.oneCell']; done))); (· (repeat constructor)); (· (repeat constructor)); (· (repeat constructor)); clear hS; intro ws hS)
      | (go_at_call 77; refine (own_c _ _ hS.inw _ _ HH.out).mono ?_; rintro e' w7 ⟨vd, vq, cells, m6, rfl, hc, hk⟩; (try rw [HW.out]); replace hS := hS.callOwn hk; have hle6 := hk.le; simp only [List.cons_append, List.nil_append] at hS; obtain ⟨qd, cd, rfl⟩ := row_form (hS.row 0 rfl); obtain ⟨qq, cq, rfl⟩ := row_form (hS.row 1 rfl); have HC := Lib.hid hc; clear hc hk))
  · have e0 : d.fuse = 0 := HW.out
    have e1 : deedD act d = { d with dead := true } := if_pos e0
    refine ret_cell_tmp (n := 4) rfl rfl hS (by (repeat constructor)) (by rfl) dkRow rfl ?_
    rw [e1]
    exact close_own (if_pos e0) e0 rfl (inK64 (by omega) (by omega)) hS HR.out HC.out (ok_big HK.out).1 (ok_big HK.out).2
  · replace hS := ((hS.front (x := .row 102 _ _ _ _) (by (repeat constructor))).front (x := .row 5 _ _ _ _) (by (repeat constructor))).front (x := .box b2 _) (by (repeat constructor))
    refine (HD.out _ _ _ _ _ _ _ _ _ _ (St.subGe (ls := [_, _, _]) hS) hS.below hS.le HC.out (St.sub (ls := [_, _, _]) hS)).mono ?_
    rintro e' w21 ⟨rfl, vq, m8, hvq, hlen, hk⟩
    replace hS := St.lendL (ls := [_, _, _]) hS hk
    simp only [List.cons_append, List.nil_append] at hS
    obtain ⟨q8, c8, rfl, _⟩ := Lay.list_open hvq
    have HV := Lib.hid hvq
    have HLN := Lib.hid hlen
    clear hk hvq hlen
    go_wp2_with (first 
    | ((with_reducible apply l_box (ty := 44) (y := (.tmp 0)) hS); (· (first | (go_simp; done) | (go_simp; with_reducible rfl))); (· exact rfl); clear hS; intro w2 b2 hS)
    | ((with_reducible apply l_alloc (ty := 44) (dst := some 4) hS (.agg #[.slice none 0 0, .slice none 0 0, .int .i64 0, .bool false]) [.slice none 0 0, .slice none 0 0, .int .i64 0, .bool false]); (· kernel_rfl); (· rfl); clear hS; intro w4 b4 hS)
    | ((with_reducible apply l_load hS); (· (first | exact Try.underlying3)); (· exact rfl); (· exact rfl); (· (first | (apply Find.box; (· (repeat constructor)); rfl) | exact Find.mem (by assumption) | (apply Find.row; (· (repeat constructor)); assumption))))
    | ((with_reducible apply g_load hS); (· (first | exact Try.underlying3)); (· exact rfl); (· (first | rfl | (go_simp; done))); (· exact rfl); (· (first | (apply Find.box; (· (repeat constructor)); rfl) | exact Find.mem (by assumption) | (apply Find.row; (· (repeat constructor)); assumption))))
    | ((with_reducible apply l_loads hS); (· (first | exact rowT44)); (· exact rfl); (· (first | (apply Finds.box; (· (repeat constructor)); (· (repeat constructor)); done) | (refine Finds.mem2 (by assumption) ?_; first | rfl | assumption | (simp; done)) | (apply Finds.row; (· (repeat constructor)); (· assumption); (· rfl)))))
    | ((with_reducible apply g_loads hS); (· (first | exact rowT44)); (· (first | rfl | (go_simp; done))); (· exact rfl); (· (first | (apply Finds.box; (· (repeat constructor)); (· (repeat constructor)); done) | (refine Finds.mem2 (by assumption) ?_; first | rfl | assumption | (simp; done)) | (apply Finds.row; (· (repeat constructor)); (· assumption); (· rfl)))))
    | ((with_reducible apply l_store hS); (· (first | exact rowT3 | exact rowT4)); (· exact rfl); (· (first | (go_simp; done) | (go_simp; with_reducible rfl))); (· (first | rfl | assumption | (simp [Value.oneCell']; done))); (· (repeat constructor)); (· (repeat constructor)); (· (repeat constructor)); clear hS; intro ws hS)
    | ((with_reducible apply l_storeR hS); (· (first | exact rowT3 | exact rowT4)); (· exact rfl); (· (first | (go_simp; done) | (go_simp; with_reducible rfl))); (· (first | rfl | assumption | (simp [Value.oneCell']; done))); (· (repeat constructor)); (· (first | assumption | omega | (simp; omega))); clear hS; intro ws hS)
    | ((with_reducible apply l_stores hS); (· (first | exact rowT44)); (· exact rfl); (· exact rfl); (· exact rfl); (· (first | assumption | (simp [Value.oneCell']; done))); (· (repeat constructor)); (· (repeat constructor)); (· (repeat constructor)); clear hS; intro ws hS))
    refine ret_cell_tmp (n := 4) rfl rfl hS (by (repeat constructor)) (by rfl) dkRow rfl ?_
    replace hS := hS.front (x := .row 5 1 _ _ _) (by (repeat constructor))
    have hl := HLN.out
    have e0 : d.fuse = -1 := HW.out
    have e1 : deedD act d = { act d with fuse := -1, dead := d.dead } := by unfold deedD; rw [if_neg (by omega), if_pos e0]
    rw [e1]
    exact close_half (D := { act d with fuse := -1, dead := d.dead }) (by unfold deedE; exact if_neg (by omega)) rfl rfl (inK64 (by omega) (by omega)) (by rw [← hl] at hS; rw [← hl]; exact hS) HI.out HV.out (by show (act d).dry.length ≤ _; have := HK.out.2.1; omega)
  · replace hS := ((hS.front (x := .row 102 _ _ _ _) (by (repeat constructor))).front (x := .row 5 _ _ _ _) (by (repeat constructor))).front (x := .box b2 _) (by (repeat constructor))
    refine (HD.out _ _ _ _ _ _ _ _ _ _ (St.subGe (ls := [_, _, _]) hS) hS.below hS.le HC.out (St.sub (ls := [_, _, _]) hS)).mono ?_
    rintro e' w21 ⟨rfl, vq, m8, hvq, hlen, hk⟩
    replace hS := St.lendL (ls := [_, _, _]) hS hk
    simp only [List.cons_append, List.nil_append] at hS
    obtain ⟨q8, c8, rfl, _⟩ := Lay.list_open hvq
    have HV := Lib.hid hvq
    have HLN := Lib.hid hlen
    clear hk hvq hlen
    go_wp2_with (first 
    | ((with_reducible apply l_box (ty := 44) (y := (.tmp 0)) hS); (· (first | (go_simp; done) | (go_simp; with_reducible rfl))); (· exact rfl); clear hS; intro w2 b2 hS)
    | ((with_reducible apply l_alloc (ty := 44) (dst := some 4) hS (.agg #[.slice none 0 0, .slice none 0 0, .int .i64 0, .bool false]) [.slice none 0 0, .slice none 0 0, .int .i64 0, .bool false]); (· kernel_rfl); (· rfl); clear hS; intro w4 b4 hS)
    | ((with_reducible apply l_load hS); (· (first | exact Try.underlying3)); (· exact rfl); (· exact rfl); (· (first | (apply Find.box; (· (repeat constructor)); rfl) | exact Find.mem (by assumption) | (apply Find.row; (· (repeat constructor)); assumption))))
    | ((with_reducible apply g_load hS); (· (first | exact Try.underlying3)); (· exact rfl); (· (first | rfl | (go_simp; done))); (· exact rfl); (· (first | (apply Find.box; (· (repeat constructor)); rfl) | exact Find.mem (by assumption) | (apply Find.row; (· (repeat constructor)); assumption))))
    | ((with_reducible apply l_loads hS); (· (first | exact rowT44)); (· exact rfl); (· (first | (apply Finds.box; (· (repeat constructor)); (· (repeat constructor)); done) | (refine Finds.mem2 (by assumption) ?_; first | rfl | assumption | (simp; done)) | (apply Finds.row; (· (repeat constructor)); (· assumption); (· rfl)))))
    | ((with_reducible apply g_loads hS); (· (first | exact rowT44)); (· (first | rfl | (go_simp; done))); (· exact rfl); (· (first | (apply Finds.box; (· (repeat constructor)); (· (repeat constructor)); done) | (refine Finds.mem2 (by assumption) ?_; first | rfl | assumption | (simp; done)) | (apply Finds.row; (· (repeat constructor)); (· assumption); (· rfl)))))
    | ((with_reducible apply l_store hS); (· (first | exact rowT3 | exact rowT4)); (· exact rfl); (· (first | (go_simp; done) | (go_simp; with_reducible rfl))); (· (first | rfl | assumption | (simp [Value.oneCell']; done))); (· (repeat constructor)); (· (repeat constructor)); (· (repeat constructor)); clear hS; intro ws hS)
    | ((with_reducible apply l_storeR hS); (· (first | exact rowT3 | exact rowT4)); (· exact rfl); (· (first | (go_simp; done) | (go_simp; with_reducible rfl))); (· (first | rfl | assumption | (simp [Value.oneCell']; done))); (· (repeat constructor)); (· (first | assumption | omega | (simp; omega))); clear hS; intro ws hS)
    | ((with_reducible apply l_stores hS); (· (first | exact rowT44)); (· exact rfl); (· exact rfl); (· exact rfl); (· (first | assumption | (simp [Value.oneCell']; done))); (· (repeat constructor)); (· (repeat constructor)); (· (repeat constructor)); clear hS; intro ws hS))
    refine ret_cell_tmp (n := 4) rfl rfl hS (by (repeat constructor)) (by rfl) dkRow rfl ?_
    replace hS := hS.front (x := .row 5 1 _ _ _) (by (repeat constructor))
    have hl := HLN.out
    have e1 : deedD act d = { act d with fuse := d.fuse - 1, dead := d.dead } := by unfold deedD; rw [if_neg (by omega), if_neg (by omega)]
    rw [e1]
    exact close_half (D := { act d with fuse := d.fuse - 1, dead := d.dead }) (by unfold deedE; exact if_neg (by omega)) rfl rfl (inK64 (by omega) (by omega)) (by rw [← hl] at hS; rw [← hl]; exact hS) HI.out HV.out (by show (act d).dry.length ≤ _; have := HK.out.2.1; omega)
end Go.Proofs.Ytnmgiiaejpaeeaa
/- Contracts of package disk over the state of a walk: Flush, Write. -/
namespace Go.Proofs.Ytnmgiiaejpaeeaa
set_option linter.unusedVariables false
set_option linter.unusedSimpArgs false
open Go.RowKit Go.Shelf
theorem St.below_of {X : List Nat} {w0 w : World} {m0 m : Mem} {es : List Ent} (h : St X w0 m0 w es m) (B : Nat) (hB : B ≤ w0.heap.size) (hX : ∀ b, b ∈ X → B ≤ b) : Below B w0 w :=
  ⟨h.kept.os, h.kept.tape, h.kept.output, h.kept.size, fun k hk => h.kept.block k (by omega) fun hm => by have := hX k hm; omega⟩
set_option maxRecDepth 100000 in
set_option maxHeartbeats 4000000 in
theorem flush1_c (m : Mem) (w : World) (d : Dk) (hok : checkOK d) : Does w m 74 #[] d flushAct := by
  intro X W mW T qd qq cd cq cells f hX hb hle hc hS
  obtain ⟨m7, hS7, hle7, hq7⟩ := hS.settleRow (L := wrL) 2 rfl hc (ok_big hok).2
  simp only [List.eraseIdx_cons_succ, List.eraseIdx_cons_zero] at hS7
  obtain ⟨gd, rfl, _⟩ := row_head (hS7.row 1 rfl) (by have := hok.1; omega)
  have HQ := Lib.hid hq7
  have HK := Lib.hid hok
  have HP := Lib.hid (placed_of_ok hok)
  have ec := enters_of Try.func76 (by kernel_rfl) rfl
  clear hS hc hq7 hok hle hb hX
  go_enter Try.func74, Try.ntmps74
  go_wp2_with fail
  refine (settle_c _ _ _ _ _ _ _ _ _ d (St.sub (ls := [_, _]) (rest := []) hS7) HQ.out HP.out HK.out.2.1 HK.out.2.2.2.1 76 #[] ec (fun _ => 32) (fun _ => Nat.le_refl _) (fun k W _ _ => by simpa using all_any k W)).mono ?_
  rintro e' w16 ⟨rfl, hk⟩
  replace hS7 := St.lendL (ls := [_, _]) (rest := []) hS7 hk
  simp only [List.cons_append, List.nil_append] at hS7
  clear hk
  go_wp2_with fail
  go_end0
  exact ⟨rfl, _, m7, Lay.nil_rd _ _, settleAt_length (fun _ => 32) d.dry.length (fun _ => Nat.le_refl _) d.wet 0 d.dry rfl fun x hx => (HP.out x hx).2, hS7⟩
theorem octets_of {m : Mem} {cs : List Value} {d : Dk} (h : dkL.rd m cs d) : (∀ x ∈ d.dry, InK .u8 x) ∧ ∀ y ∈ d.wet, ∀ x ∈ y.b, InK .u8 x := by
  obtain ⟨v0, v1, rfl, h0, h1, _⟩ := dkL_open h
  obtain ⟨_, _, _, _, _, _, a4⟩ := Lay.list_open h0
  obtain ⟨_, _, _, _, _, _, b4⟩ := Lay.list_open h1
  exact ⟨a4.inK, row_octets b4⟩
set_option maxRecDepth 100000 in
set_option maxHeartbeats 4000000 in
theorem flush_c (m : Mem) (w : World) (hm : m.In w) (cs : List Value) (d : Dk) (h : dkL.rd m cs d) :
    Calls Try.prog 37 #[.agg cs.toArray] w (RetDE w m (flushD d) (flushE d)) := by
  have HH := Lib.hid h
  have HO := Lib.hid (octets_of h)
  obtain ⟨v0, v1, rfl, h0, h1, _⟩ := dkL_open h
  obtain ⟨p0, c0, rfl, _⟩ := Lay.list_open h0
  obtain ⟨p1, c1, rfl, _⟩ := Lay.list_open h1
  have hS := St.start hm
  clear h h0 h1
  have ec := enters_of Try.func74 (by kernel_rfl) rfl
  have ways : (aliveE d = 0 ∧ checkOK d) ∨ (aliveE d = 1) ∨ (aliveE d = 11) := by
    rcases checkE_cases d with ⟨_, h⟩ | ⟨_, h⟩
    · cases hd : d.dead
      · exact .inl ⟨(alive_of hd).1 h, h⟩
      · exact .inr (.inr ((alive_of hd).1 h))
    · exact .inr (.inl ((alive_of rfl).2 h))
  rcases ways with ⟨hA, hok⟩ | hA | hA
  · have HA := Lib.hid hA
    have HK := Lib.hid hok
    clear hA hok
    go_enter Try.func37, Try.ntmps37
    go_wp2_with (first 
    | ((with_reducible apply l_box (ty := 44) (y := (.tmp 0)) hS); (· (first | (go_simp; done) | (go_simp; with_reducible rfl))); (· exact rfl); clear hS; intro w1 b1 hS)
    | ((with_reducible apply l_alloc (ty := 44) (dst := some 2) hS (.agg #[.slice none 0 0, .slice none 0 0, .int .i64 0, .bool false]) [.slice none 0 0, .slice none 0 0, .int .i64 0, .bool false]); (· kernel_rfl); (· rfl); clear hS; intro w2 b2 hS)
    | ((with_reducible apply l_loads hS); (· (first | exact rowT44)); (· exact rfl); (· (first | (apply Finds.box; (· (repeat constructor)); (· (repeat constructor)); done) | (refine Finds.mem2 (by assumption) ?_; first | rfl | assumption | (simp; done)) | (apply Finds.row; (· (repeat constructor)); (· assumption); (· rfl)))))
    | ((with_reducible apply g_loads hS); (· (first | exact rowT44)); (· (first | rfl | (go_simp; done))); (· exact rfl); (· (first | (apply Finds.box; (· (repeat constructor)); (· (repeat constructor)); done) | (refine Finds.mem2 (by assumption) ?_; first | rfl | assumption | (simp; done)) | (apply Finds.row; (· (repeat constructor)); (· assumption); (· rfl)))))
    | ((with_reducible apply l_stores hS); (· (first | exact rowT44)); (· exact rfl); (· exact rfl); (· exact rfl); (· (first | assumption | (simp [Value.oneCell']; done))); (· (repeat constructor)); (· (repeat constructor)); (· (repeat constructor)); clear hS; intro ws hS)
      | (go_at_call 69; refine (alive_c _ _ hS.inw _ _ HH.out).mono ?_; rintro e' w6 ⟨v6, m5, rfl, rfl, hk⟩; rw [HA.out]; replace hS := hS.call hk; have hle := hk.le; clear hk)
      | (go_at_call 71; refine (deed_c _ _ hS.inw _ _ (dkL.mono hle HH.out) HK.out 74 #[] ec flushAct (flush1_c _ _ d HK.out) (settle_inK _ _ _ _ HO.out.1 HO.out.2)).mono ?_; rintro e' w12 ⟨v12, m12, rfl, ⟨cs12, rfl, hr12⟩, hk⟩; replace hS := hS.call hk; clear hk; have HR := Lib.hid hr12; have hone := dkL.one hr12; obtain ⟨u0, u1, rfl, _⟩ := dkL_open hr12; clear hr12))
    refine ret_cell_tmp (n := 4) rfl rfl hS (by (repeat constructor)) (by rfl) dkRow rfl ?_
    have E := fl_ok HA.out
    rw [E.1, E.2]
    exact ⟨_, _, rfl, ⟨_, rfl, HR.out⟩, hS.done⟩
  all_goals
    have HA := Lib.hid hA
    clear hA
    go_enter Try.func37, Try.ntmps37
    go_wp2_with (first 
    | ((with_reducible apply l_box (ty := 44) (y := (.tmp 0)) hS); (· (first | (go_simp; done) | (go_simp; with_reducible rfl))); (· exact rfl); clear hS; intro w1 b1 hS)
    | ((with_reducible apply l_alloc (ty := 44) (dst := some 2) hS (.agg #[.slice none 0 0, .slice none 0 0, .int .i64 0, .bool false]) [.slice none 0 0, .slice none 0 0, .int .i64 0, .bool false]); (· kernel_rfl); (· rfl); clear hS; intro w2 b2 hS)
    | ((with_reducible apply l_loads hS); (· (first | exact rowT44)); (· exact rfl); (· (first | (apply Finds.box; (· (repeat constructor)); (· (repeat constructor)); done) | (refine Finds.mem2 (by assumption) ?_; first | rfl | assumption | (simp; done)) | (apply Finds.row; (· (repeat constructor)); (· assumption); (· rfl)))))
    | ((with_reducible apply g_loads hS); (· (first | exact rowT44)); (· (first | rfl | (go_simp; done))); (· exact rfl); (· (first | (apply Finds.box; (· (repeat constructor)); (· (repeat constructor)); done) | (refine Finds.mem2 (by assumption) ?_; first | rfl | assumption | (simp; done)) | (apply Finds.row; (· (repeat constructor)); (· assumption); (· rfl)))))
    | ((with_reducible apply l_stores hS); (· (first | exact rowT44)); (· exact rfl); (· exact rfl); (· exact rfl); (· (first | assumption | (simp [Value.oneCell']; done))); (· (repeat constructor)); (· (repeat constructor)); (· (repeat constructor)); clear hS; intro ws hS)
      | (go_at_call 69; refine (alive_c _ _ hS.inw _ _ HH.out).mono ?_; rintro e' w6 ⟨v6, m5, rfl, rfl, hk⟩; rw [HA.out]; replace hS := hS.call hk; clear hk))
    refine ret_cell_tmp (n := 4) rfl rfl hS (by (repeat constructor)) (by rfl) dkRow rfl ?_
    have E := fl_err HA.out (by decide)
    exact close_err E.1 E.2 hS
end Go.Proofs.Ytnmgiiaejpaeeaa
/- Contract of disk.Write over the state of a walk. -/
namespace Go.Proofs.Ytnmgiiaejpaeeaa
set_option linter.unusedVariables false
set_option linter.unusedSimpArgs false
open Go.RowKit Go.Shelf
set_option maxRecDepth 100000 in
set_option maxHeartbeats 4000000 in
theorem write1_c (m : Mem) (w : World) (d : Dk) (k : Int) (b4 b5 : Nat) (pb : Option Addr) (cb : Nat) (b : List Int) (hk : m ⟨b4, 0, none⟩ = some (.int .i64 k)) (hb5 : m ⟨b5, 0, none⟩ = some (.slice pb b.length cb)) (hb : bytesL.rd m [.slice pb b.length cb] b)
    (hik : InK .i64 k) (hw : d.wet.length < 8192) : Does w m 72 #[.pointer (some ⟨b4, 0, none⟩), .pointer (some ⟨b5, 0, none⟩)] d (writeAct k b) := by
  intro X W mW T qd qq cd cq cells f hX hbel hle hc hS
  have k4 := hle _ _ hk
  have k5 := hle _ _ hb5
  have HB := Lib.hid (bytesL.mono hle hb)
  have HC := Lib.hid hc
  have HW := Lib.hid hw
  have HIK := Lib.hid hik
  clear hk hb5 hb hle hc hbel hX hw hik
  go_enter Try.func72, Try.ntmps72
  go_wp2_with fail
  replace hS := hS.drew
  refine startL (S := Sx _ []) (by kernel_rfl) hS.sx0 (fun _ _ _ _ => trivial) (fun hHeld => ?_)
  focus (refine takeN 0 (v := ?_) rfl (by kernel_rfl) ?_ ?_; rotate_left; focus (intro w hSw; clear hSw; go_simp; try with_reducible rfl))
  try simp only [Act.put, nz1, nz2, nz3]
  focus (refine takeN 1 (v := ?_) rfl (by kernel_rfl) ?_ ?_; rotate_left; focus (intro w hSw; clear hSw; go_simp; try with_reducible rfl))
  try simp only [Act.put, nz1, nz2, nz3]
  focus (refine takeN 2 (v := ?_) rfl (by kernel_rfl) ?_ ?_; rotate_left; focus (intro w hSw; clear hSw; go_simp; try with_reducible rfl))
  try simp only [Act.put, nz1, nz2, nz3]
  focus (refine takeN 3 (v := ?_) rfl (by kernel_rfl) ?_ ?_; rotate_left; focus (intro w hSw; clear hSw; go_simp; try with_reducible rfl))
  try simp only [Act.put, nz1, nz2, nz3]
  refine takeN 5 rfl (by kernel_rfl) (yield_load rfl Try.underlying3 rfl rfl (by (first | (apply FindX.box; (· (repeat constructor)); rfl) | exact FindX.mem (by assumption)))) ?_
  try simp only [Act.put, nz1, nz2, nz3]
  refine takeN 6 rfl (by kernel_rfl) (yield_load rfl Try.underlying22 rfl rfl (by (first | (apply FindX.box; (· (repeat constructor)); rfl) | exact FindX.mem (by assumption)))) ?_
  try simp only [Act.put, nz1, nz2, nz3]
  refine wpAnyH_ready (rs := [4, 7]) (by kernel_rfl) (by simp) ?_
  refine consL 4 rfl (fun K hK => ?_) (consL 7 rfl (fun K hK => ?_) AllReadyH.nil)
  rotate_right
  focus
    rw [if_pos (by rfl)]; go_simp; refine (bclone_c _ _ hS.inw _ HB.out).mono ?_; rintro e' w11 ⟨q11, c11, news11, rfl, hc11, hk11⟩; replace hS := hS.callOwn hk11; clear hk11; go_wp2_with fail
    refine hK.out _ _ (by first | exact hS.sx0 | exact Sx.le (by assumption) hS.sx0) (fun hHeld => ?_)
    clear hK K
    try simp only [Act.put, nz1, nz2, nz3]
    focus (refine takeN 8 (v := ?_) rfl (by kernel_rfl) ?_ ?_; rotate_left; focus (intro w hSw; clear hSw; go_simp; try with_reducible rfl))
    try simp only [Act.put, nz1, nz2, nz3]
    refine wpAnyH_ready (rs := [4, 9]) (by kernel_rfl) (by simp) ?_
    refine consL 4 rfl (fun K hK => ?_) (consL 9 rfl (fun K hK => ?_) AllReadyH.nil)
    rotate_right
    focus
      (with_reducible apply s_lit el_wr hS (cs := [.int .i64 k, .slice q11 b.length c11])); (· decide); (· decide); (· kernel_rfl); clear hS; intro w13 b13 hS
      refine hK.out _ _ (by first | exact hS.sx0 | exact Sx.le (by assumption) hS.sx0) (fun hHeld => ?_)
      clear hK K
      try simp only [Act.put, nz1, nz2, nz3]
      refine wpAnyH_ready (rs := [4]) (by kernel_rfl) (by simp) ?_
      refine consL 4 rfl (fun K hK => ?_) AllReadyH.nil
      (with_reducible apply s_load hS); (· exact Try.underlying42); (· exact rfl); (· exact rfl); (· (first | (apply Find.box; (· (repeat constructor)); rfl) | exact Find.mem (by assumption) | (apply Find.row; (· (repeat constructor)); assumption)))
      refine hK.out _ _ (by first | exact hS.sx0 | exact Sx.le (by assumption) hS.sx0) (fun hHeld => ?_)
      clear hK K
      try simp only [Act.put, nz1, nz2, nz3]
      refine wpAnyH_ready (rs := [10]) (by kernel_rfl) (by simp) ?_
      refine consL 10 rfl (fun K hK => ?_) AllReadyH.nil
      (with_reducible apply s_appendB el_wr hS (by decide)); (· exact rfl); (· (repeat constructor)); (· exact rfl); (· (repeat constructor)); (· rfl); (· simp [Value.oneCell']); (· have := HW.out; omega); clear hS; intro w14 q14 c14 hS
      refine hK.out _ _ (by first | exact hS.sx0 | exact Sx.le (by assumption) hS.sx0) (fun hHeld => ?_)
      clear hK K
      try simp only [Act.put, nz1, nz2, nz3]
      focus (refine takeN 11 (v := ?_) rfl (by kernel_rfl) ?_ ?_; rotate_left; focus (intro w hSw; clear hSw; go_simp; try with_reducible rfl))
      try simp only [Act.put, nz1, nz2, nz3]
      focus (refine takeN 12 (v := ?_) rfl (by kernel_rfl) ?_ ?_; rotate_left; focus (intro w hSw; clear hSw; go_simp; try with_reducible rfl))
      try simp only [Act.put, nz1, nz2, nz3]
      refine wpAnyH_ready (rs := [13]) (by kernel_rfl) (by simp) ?_
      refine consL 13 rfl (fun K hK => ?_) AllReadyH.nil
      (with_reducible apply s_store hS); (· exact rowT42); (· exact rfl); (· (first | (go_simp; done) | (go_simp; with_reducible rfl))); (· (first | rfl | assumption | (simp [Value.oneCell']; done))); (· (repeat constructor)); (· (repeat constructor)); (· (repeat constructor)); clear hS; intro ws hS
      refine hK.out _ _ (by first | exact hS.sx0 | exact Sx.le (by assumption) hS.sx0) (fun hHeld => ?_)
      clear hK K
      try simp only [Act.put, nz1, nz2, nz3]
      refine wpAnyH_done (by kernel_rfl) ?_ _
      refine NoPanic.normal ?_
    rotate_right
    focus
      (with_reducible apply s_load hS); (· exact Try.underlying42); (· exact rfl); (· exact rfl); (· (first | (apply Find.box; (· (repeat constructor)); rfl) | exact Find.mem (by assumption) | (apply Find.row; (· (repeat constructor)); assumption)))
      refine hK.out _ _ (by first | exact hS.sx0 | exact Sx.le (by assumption) hS.sx0) (fun hHeld => ?_)
      clear hK K
      try simp only [Act.put, nz1, nz2, nz3]
      refine wpAnyH_ready (rs := [9]) (by kernel_rfl) (by simp) ?_
      refine consL 9 rfl (fun K hK => ?_) AllReadyH.nil
      (with_reducible apply s_lit el_wr hS (cs := [.int .i64 k, .slice q11 b.length c11])); (· decide); (· decide); (· kernel_rfl); clear hS; intro w13 b13 hS
      refine hK.out _ _ (by first | exact hS.sx0 | exact Sx.le (by assumption) hS.sx0) (fun hHeld => ?_)
      clear hK K
      try simp only [Act.put, nz1, nz2, nz3]
      refine wpAnyH_ready (rs := [10]) (by kernel_rfl) (by simp) ?_
      refine consL 10 rfl (fun K hK => ?_) AllReadyH.nil
      (with_reducible apply s_appendB el_wr hS (by decide)); (· exact rfl); (· (repeat constructor)); (· exact rfl); (· (repeat constructor)); (· rfl); (· simp [Value.oneCell']); (· have := HW.out; omega); clear hS; intro w14 q14 c14 hS
      refine hK.out _ _ (by first | exact hS.sx0 | exact Sx.le (by assumption) hS.sx0) (fun hHeld => ?_)
      clear hK K
      try simp only [Act.put, nz1, nz2, nz3]
      focus (refine takeN 11 (v := ?_) rfl (by kernel_rfl) ?_ ?_; rotate_left; focus (intro w hSw; clear hSw; go_simp; try with_reducible rfl))
      try simp only [Act.put, nz1, nz2, nz3]
      focus (refine takeN 12 (v := ?_) rfl (by kernel_rfl) ?_ ?_; rotate_left; focus (intro w hSw; clear hSw; go_simp; try with_reducible rfl))
      try simp only [Act.put, nz1, nz2, nz3]
      refine wpAnyH_ready (rs := [13]) (by kernel_rfl) (by simp) ?_
      refine consL 13 rfl (fun K hK => ?_) AllReadyH.nil
      (with_reducible apply s_store hS); (· exact rowT42); (· exact rfl); (· (first | (go_simp; done) | (go_simp; with_reducible rfl))); (· (first | rfl | assumption | (simp [Value.oneCell']; done))); (· (repeat constructor)); (· (repeat constructor)); (· (repeat constructor)); clear hS; intro ws hS
      refine hK.out _ _ (by first | exact hS.sx0 | exact Sx.le (by assumption) hS.sx0) (fun hHeld => ?_)
      clear hK K
      try simp only [Act.put, nz1, nz2, nz3]
      refine wpAnyH_done (by kernel_rfl) ?_ _
      refine NoPanic.normal ?_
  rotate_right
  focus
    (with_reducible apply s_load hS); (· exact Try.underlying42); (· exact rfl); (· exact rfl); (· (first | (apply Find.box; (· (repeat constructor)); rfl) | exact Find.mem (by assumption) | (apply Find.row; (· (repeat constructor)); assumption)))
    refine hK.out _ _ (by first | exact hS.sx0 | exact Sx.le (by assumption) hS.sx0) (fun hHeld => ?_)
    clear hK K
    try simp only [Act.put, nz1, nz2, nz3]
    refine wpAnyH_ready (rs := [7]) (by kernel_rfl) (by simp) ?_
    refine consL 7 rfl (fun K hK => ?_) AllReadyH.nil
    rw [if_pos (by rfl)]; go_simp; refine (bclone_c _ _ hS.inw _ HB.out).mono ?_; rintro e' w11 ⟨q11, c11, news11, rfl, hc11, hk11⟩; replace hS := hS.callOwn hk11; clear hk11; go_wp2_with fail
    refine hK.out _ _ (by first | exact hS.sx0 | exact Sx.le (by assumption) hS.sx0) (fun hHeld => ?_)
    clear hK K
    try simp only [Act.put, nz1, nz2, nz3]
    focus (refine takeN 8 (v := ?_) rfl (by kernel_rfl) ?_ ?_; rotate_left; focus (intro w hSw; clear hSw; go_simp; try with_reducible rfl))
    try simp only [Act.put, nz1, nz2, nz3]
    refine wpAnyH_ready (rs := [9]) (by kernel_rfl) (by simp) ?_
    refine consL 9 rfl (fun K hK => ?_) AllReadyH.nil
    (with_reducible apply s_lit el_wr hS (cs := [.int .i64 k, .slice q11 b.length c11])); (· decide); (· decide); (· kernel_rfl); clear hS; intro w13 b13 hS
    refine hK.out _ _ (by first | exact hS.sx0 | exact Sx.le (by assumption) hS.sx0) (fun hHeld => ?_)
    clear hK K
    try simp only [Act.put, nz1, nz2, nz3]
    refine wpAnyH_ready (rs := [10]) (by kernel_rfl) (by simp) ?_
    refine consL 10 rfl (fun K hK => ?_) AllReadyH.nil
    (with_reducible apply s_appendB el_wr hS (by decide)); (· exact rfl); (· (repeat constructor)); (· exact rfl); (· (repeat constructor)); (· rfl); (· simp [Value.oneCell']); (· have := HW.out; omega); clear hS; intro w14 q14 c14 hS
    refine hK.out _ _ (by first | exact hS.sx0 | exact Sx.le (by assumption) hS.sx0) (fun hHeld => ?_)
    clear hK K
    try simp only [Act.put, nz1, nz2, nz3]
    focus (refine takeN 11 (v := ?_) rfl (by kernel_rfl) ?_ ?_; rotate_left; focus (intro w hSw; clear hSw; go_simp; try with_reducible rfl))
    try simp only [Act.put, nz1, nz2, nz3]
    focus (refine takeN 12 (v := ?_) rfl (by kernel_rfl) ?_ ?_; rotate_left; focus (intro w hSw; clear hSw; go_simp; try with_reducible rfl))
    try simp only [Act.put, nz1, nz2, nz3]
    refine wpAnyH_ready (rs := [13]) (by kernel_rfl) (by simp) ?_
    refine consL 13 rfl (fun K hK => ?_) AllReadyH.nil
    (with_reducible apply s_store hS); (· exact rowT42); (· exact rfl); (· (first | (go_simp; done) | (go_simp; with_reducible rfl))); (· (first | rfl | assumption | (simp [Value.oneCell']; done))); (· (repeat constructor)); (· (repeat constructor)); (· (repeat constructor)); clear hS; intro ws hS
    refine hK.out _ _ (by first | exact hS.sx0 | exact Sx.le (by assumption) hS.sx0) (fun hHeld => ?_)
    clear hK K
    try simp only [Act.put, nz1, nz2, nz3]
    refine wpAnyH_done (by kernel_rfl) ?_ _
    refine NoPanic.normal ?_
  all_goals
    go_wp2_with fail
    go_end0
    obtain ⟨m7, hS7, hle7, hrd⟩ := (hS.front (x := .row 5 _ (.slice q11 _ _) _ _) (by (repeat constructor))).settleRow (L := u8L) 0 rfl hc11 (by obtain ⟨_, _, e, _, _, h3, _⟩ := HB.out; exact h3)
    have hlen : d.wet.length + 1 = (d.wet ++ [(⟨k, b⟩ : Wr)]).length := by simp
    rw [hlen] at hS7
    obtain ⟨m8, hS8, hle8, hrd8⟩ := (hS7.front (x := .row 102 _ _ _ _) (by (repeat constructor))).settleRow (L := wrL) (xs := d.wet ++ [⟨k, b⟩]) 0 rfl ((HC.out.mono hle7).snoc (wrL_mk (x := ⟨k, b⟩) HIK.out hrd)) (by have := HW.out; simp [wrL, Lay.by]; omega)
    replace hS8 := (hS8.forget (x := .box b13 _) (by (repeat constructor))).front (x := .box T _) (by (repeat constructor))
    exact ⟨rfl, _, m8, hrd8, rfl, hS8⟩
set_option maxRecDepth 100000 in
set_option maxHeartbeats 4000000 in
theorem write_c (m : Mem) (w : World) (hm : m.In w) (cs : List Value) (d : Dk) (h : dkL.rd m cs d) (k : Int) (hik : InK .i64 k) (vb : Value) (b : List Int) (hb : bytesL.rd m [vb] b) :
    Calls Try.prog 35 #[.agg cs.toArray, .int .i64 k, vb] w (RetDE w m (writeD d k b) (writeE d k b)) := by
  have HH := Lib.hid h
  have HO := Lib.hid (octets_of h)
  have HB := Lib.hid hb
  obtain ⟨v0, v1, rfl, h0, h1, _⟩ := dkL_open h
  obtain ⟨p0, c0, rfl, _⟩ := Lay.list_open h0
  obtain ⟨p1, c1, rfl, b1, b2, _⟩ := Lay.list_open h1
  obtain ⟨pb, cb, rfl, e1, e2, _⟩ := Lay.list_open hb
  have hS := St.start hm
  have HIK := Lib.hid hik
  simp only [maxLen] at b2 e2
  clear h h0 h1 hb hik
  have ec := enters_of Try.func72 (by kernel_rfl) rfl
  have ways : (aliveE d = 0 ∧ checkOK d ∧ d.dead = false) ∨ (aliveE d = 1 ∧ ¬ checkOK d ∧ True) ∨ (aliveE d = 11 ∧ checkOK d ∧ d.dead = true) := by
    rcases checkE_cases d with ⟨_, h⟩ | ⟨_, h⟩
    · cases hd : d.dead
      · exact .inl ⟨(alive_of hd).1 h, h, rfl⟩
      · exact .inr (.inr ⟨(alive_of hd).1 h, h, rfl⟩)
    · exact .inr (.inl ⟨(alive_of rfl).2 h, h, trivial⟩)
  rcases ways with ⟨hA, hok, hdd⟩ | ⟨hA, hok, hdd⟩ | ⟨hA, hok, hdd⟩
  all_goals
      have HK := Lib.hid hok
      have HD := Lib.hid hdd
      have HA := Lib.hid hA
      clear hok hA hdd
      obtain ⟨F, hF⟩ : ∃ F, F = farD d k := ⟨_, rfl⟩
      have HF := Lib.hid hF
      cases F
      all_goals
        clear hF
        go_enter Try.func35, Try.ntmps35
        go_wp2_with (first 
    | ((with_reducible apply l_box (ty := 44) (y := (.tmp 0)) hS); (· (first | (go_simp; done) | (go_simp; with_reducible rfl))); (· exact rfl); clear hS; intro w3 b3 hS)
    | ((with_reducible apply l_box (ty := 3) (y := (.tmp 1)) hS); (· (first | (go_simp; done) | (go_simp; with_reducible rfl))); (· exact rfl); clear hS; intro w4 b4 hS)
    | ((with_reducible apply l_box (ty := 22) (y := (.tmp 2)) hS); (· (first | (go_simp; done) | (go_simp; with_reducible rfl))); (· exact rfl); clear hS; intro w5 b5 hS)
    | ((with_reducible apply l_alloc (ty := 44) (dst := some 6) hS (.agg #[.slice none 0 0, .slice none 0 0, .int .i64 0, .bool false]) [.slice none 0 0, .slice none 0 0, .int .i64 0, .bool false]); (· kernel_rfl); (· rfl); clear hS; intro w6 b6 hS)
    | ((with_reducible apply l_load hS); (· (first | exact Try.underlying3 | exact Try.underlying22 | exact Try.underlying42)); (· exact rfl); (· exact rfl); (· (first | (apply Find.box; (· (repeat constructor)); rfl) | exact Find.mem (by assumption) | (apply Find.row; (· (repeat constructor)); assumption))))
    | ((with_reducible apply g_load hS); (· (first | exact Try.underlying3 | exact Try.underlying22 | exact Try.underlying42)); (· exact rfl); (· (first | rfl | (go_simp; done))); (· exact rfl); (· (first | (apply Find.box; (· (repeat constructor)); rfl) | exact Find.mem (by assumption) | (apply Find.row; (· (repeat constructor)); assumption))))
    | ((with_reducible apply l_loads hS); (· (first | exact rowT44)); (· exact rfl); (· (first | (apply Finds.box; (· (repeat constructor)); (· (repeat constructor)); done) | (refine Finds.mem2 (by assumption) ?_; first | rfl | assumption | (simp; done)) | (apply Finds.row; (· (repeat constructor)); (· assumption); (· rfl)))))
    | ((with_reducible apply g_loads hS); (· (first | exact rowT44)); (· (first | rfl | (go_simp; done))); (· exact rfl); (· (first | (apply Finds.box; (· (repeat constructor)); (· (repeat constructor)); done) | (refine Finds.mem2 (by assumption) ?_; first | rfl | assumption | (simp; done)) | (apply Finds.row; (· (repeat constructor)); (· assumption); (· rfl)))))
    | ((with_reducible apply l_stores hS); (· (first | exact rowT44)); (· exact rfl); (· exact rfl); (· exact rfl); (· (first | assumption | (simp [Value.oneCell']; done))); (· (repeat constructor)); (· (repeat constructor)); (· (repeat constructor)); clear hS; intro ws hS)
          | (go_at_call 69; refine (alive_c _ _ hS.inw _ _ HH.out).mono ?_; rintro e' w10 ⟨v10, m5, rfl, rfl, hk⟩; rw [HA.out]; replace hS := hS.call hk; have hle := hk.le; clear hk)
          | (go_at_call 70; refine (far_c _ _ hS.inw _ _ (dkL.mono hle HH.out) k).mono ?_; rintro e' w28 ⟨v28, m6, rfl, rfl, hk⟩; rw [← HF.out]; replace hS := hS.call hk; have hle6 := hle.trans hk.le; clear hk))
        all_goals (try simp only [bne_iff_ne, ne_eq, bne_eq_false_iff_eq, beq_iff_eq, beq_eq_false_iff_ne] at *)
        all_goals first
          | (refine ret_cell_tmp (n := 4) rfl rfl hS (by (repeat constructor)) (by rfl) dkRow rfl ?_
             have F1 := HF.out
             simp only [farD, eq_comm (a := true), eq_comm (a := false), decide_eq_true_eq, decide_eq_false_iff_not] at F1
             first
             | (have E := we_err (d := d) (k := k) (b := b) (we1 (.inl HK.out)) (by decide); exact close_err E.1 E.2 hS)
             | (have E := we_err (d := d) (k := k) (b := b) (we1 (.inr (by omega))) (by decide); exact close_err E.1 E.2 hS)
             | (have E := we_err (d := d) (k := k) (b := b) (we2 HK.out (by omega) HD.out) (by decide); exact close_err E.1 E.2 hS)
             | (have E := we_err (d := d) (k := k) (b := b) (we3 HK.out (by omega) HD.out (by omega)) (by decide); exact close_err E.1 E.2 hS)
             | (have E := we_err (d := d) (k := k) (b := b) (we4 HK.out (by omega) HD.out (by omega) (by omega)) (by decide); exact close_err E.1 E.2 hS))
          | skip
  have F1 := HF.out
  simp only [farD, eq_comm (a := false), decide_eq_false_iff_not] at F1
  have HL32 : Hid (b.length = 32) := by show _ = _; omega
  have HFF : Hid (0 ≤ k ∧ k < (d.dry.length : Int) / 32) := by show _ ∧ _; omega
  have HW : Hid (d.wet.length < 8192) := by have := HK.out.2.2.2.1; show _ < _; omega
  clear F1
  obtain ⟨m7, hS7, hle7, hb4⟩ := (hS.front (x := .box b4 _) (by (repeat constructor))).settleBox 0 rfl
  simp only [List.eraseIdx_cons_zero] at hS7
  obtain ⟨m8, hS8, hle8, hb5⟩ := (hS7.front (x := .box b5 _) (by (repeat constructor))).settleBox 0 rfl
  simp only [List.eraseIdx_cons_zero] at hS8
  have k4 := hle8 _ _ (hb4 0 _ rfl)
  have k5 := hb5 0 _ rfl
  have hle9 := hle6.trans (hle7.trans hle8)
  clear hS hS7 hb4 hb5
  refine (deed_c _ _ hS8.inw _ _ (dkL.mono hle9 HH.out) HK.out 72 _ ec (writeAct k b) (write1_c _ _ d k b4 b5 pb cb b k4 k5 (bytesL.mono hle9 HB.out) HIK.out HW.out) HO.out.1).mono ?_
  rintro e' w38 ⟨v38, m38, rfl, ⟨cs38, rfl, hr38⟩, hk⟩
  have hS := hS8.call hk
  clear hk hS8
  have HR := Lib.hid hr38
  have hone := dkL.one hr38
  obtain ⟨u0, u1, rfl, _⟩ := dkL_open hr38
  clear hr38 k4 k5
  go_wp2_with (first 
    | ((with_reducible apply l_box (ty := 44) (y := (.tmp 0)) hS); (· (first | (go_simp; done) | (go_simp; with_reducible rfl))); (· exact rfl); clear hS; intro w3 b3 hS)
    | ((with_reducible apply l_box (ty := 3) (y := (.tmp 1)) hS); (· (first | (go_simp; done) | (go_simp; with_reducible rfl))); (· exact rfl); clear hS; intro w4 b4 hS)
    | ((with_reducible apply l_box (ty := 22) (y := (.tmp 2)) hS); (· (first | (go_simp; done) | (go_simp; with_reducible rfl))); (· exact rfl); clear hS; intro w5 b5 hS)
    | ((with_reducible apply l_alloc (ty := 44) (dst := some 6) hS (.agg #[.slice none 0 0, .slice none 0 0, .int .i64 0, .bool false]) [.slice none 0 0, .slice none 0 0, .int .i64 0, .bool false]); (· kernel_rfl); (· rfl); clear hS; intro w6 b6 hS)
    | ((with_reducible apply l_load hS); (· (first | exact Try.underlying3 | exact Try.underlying22 | exact Try.underlying42)); (· exact rfl); (· exact rfl); (· (first | (apply Find.box; (· (repeat constructor)); rfl) | exact Find.mem (by assumption) | (apply Find.row; (· (repeat constructor)); assumption))))
    | ((with_reducible apply g_load hS); (· (first | exact Try.underlying3 | exact Try.underlying22 | exact Try.underlying42)); (· exact rfl); (· (first | rfl | (go_simp; done))); (· exact rfl); (· (first | (apply Find.box; (· (repeat constructor)); rfl) | exact Find.mem (by assumption) | (apply Find.row; (· (repeat constructor)); assumption))))
    | ((with_reducible apply l_loads hS); (· (first | exact rowT44)); (· exact rfl); (· (first | (apply Finds.box; (· (repeat constructor)); (· (repeat constructor)); done) | (refine Finds.mem2 (by assumption) ?_; first | rfl | assumption | (simp; done)) | (apply Finds.row; (· (repeat constructor)); (· assumption); (· rfl)))))
    | ((with_reducible apply g_loads hS); (· (first | exact rowT44)); (· (first | rfl | (go_simp; done))); (· exact rfl); (· (first | (apply Finds.box; (· (repeat constructor)); (· (repeat constructor)); done) | (refine Finds.mem2 (by assumption) ?_; first | rfl | assumption | (simp; done)) | (apply Finds.row; (· (repeat constructor)); (· assumption); (· rfl)))))
    | ((with_reducible apply l_stores hS); (· (first | exact rowT44)); (· exact rfl); (· exact rfl); (· exact rfl); (· (first | assumption | (simp [Value.oneCell']; done))); (· (repeat constructor)); (· (repeat constructor)); (· (repeat constructor)); clear hS; intro ws hS))
  refine ret_cell_tmp (n := 4) rfl rfl hS (by (repeat constructor)) (by rfl) dkRow rfl ?_
  have E := we_ok (d := d) (k := k) (b := b) (we5 HK.out HL32.out HD.out HFF.out (by have := HW.out; omega))
  rw [E.1, E.2]
  exact ⟨_, _, rfl, ⟨_, rfl, HR.out⟩, hS.done⟩
end Go.Proofs.Ytnmgiiaejpaeeaa
/- Contracts of package disk over the state of a walk: Lit, New; the reference's New; the law's sector. -/
namespace Go.Proofs.Ytnmgiiaejpaeeaa
set_option linter.unusedVariables false
set_option linter.unusedSimpArgs false
open Go.RowKit Go.Shelf
theorem made_u8 (n : Nat) : (madeCells (Value.int .u8 0).cells (n * 1)).toList = (List.replicate n (0 : Int)).map (.int .u8) := by
  show (madeCells #[Value.int .u8 0] (n * 1)).toList = _
  rw [madeCells_one]; simp
theorem cells_of_ints {k : IntKind} {m : Mem} {xs : List Int} (hk : ∀ x ∈ xs, InK k x) : CellsOf (Lay.int k) m (xs.map (.int k)) xs := by
  refine ⟨xs.map fun x => [.int k x], ?_, by simp, fun i cs x h3 h4 => ?_⟩
  · clear hk
    induction xs with
    | nil => rfl
    | cons x xs ih => simp [ih]
  · simp only [List.getElem?_map, h4, Option.map_some, Option.some.injEq] at h3
    subst h3
    exact ⟨rfl, hk _ (List.mem_of_getElem? h4)⟩
set_option maxRecDepth 100000 in
set_option maxHeartbeats 4000000 in
theorem sector_c (m : Mem) (w : World) (hm : m.In w) (c : Int) (hc : InK .u8 c) :
    Calls Try.prog 36 #[.int .u8 c] w (Ret w m fun v m' => bytesL.rd m' [v] (List.replicate 32 c)) := by
  have hS := St.start hm
  have HC := Lib.hid hc
  clear hc
  go_enter Try.func36, Try.ntmps36
  go_wp2_with (first
    | ((with_reducible apply l_make el_u8 32 hS); (· exact rfl); (· exact rfl); (· rfl); (· rfl); (· decide); (· decide); (· decide); clear hS; intro w3 b3 hS)
    | ((with_reducible apply l_store hS); (· (first | exact rowT5)); (· exact rfl); (· (first | (go_simp; done) | (go_simp; with_reducible rfl))); (· (first | rfl | assumption | (simp [Value.oneCell']; done))); (· (repeat constructor)); (· (repeat constructor)); (· (repeat constructor)); clear hS; intro ws hS)
    | ((with_reducible apply l_storeR hS); (· (first | exact rowT5)); (· exact rfl); (· (first | (go_simp; done) | (go_simp; with_reducible rfl))); (· (first | rfl | assumption | (simp [Value.oneCell']; done))); (· (repeat constructor)); (· (first | assumption | omega | (simp; omega))); clear hS; intro ws hS))
  simp only [made_u8] at hS
  go_loopw [8] (fun i wr => ∃ k : Nat, k ≤ 32 ∧ i = .int .i64 k ∧ St [] w m wr [.row 5 1 (.slice (some ⟨b3, 0, none⟩) 32 32) 32 ((List.replicate k c ++ List.replicate (32 - k) 0).map (.int .u8))] m) (fun i _ => 32 - (intOf i).toNat)
  case atStart => exact ⟨0, Nat.zero_le _, rfl, hS⟩
  case round =>
    clear hS
    obtain ⟨k, hk, rfl, hS⟩ := hrel
    by_cases hlt : k < 32
    · have hl : k < ((List.replicate k c ++ List.replicate (32 - k) 0).map (Value.int .u8)).length := by simp; omega
      have hset : ((List.replicate k c ++ List.replicate (32 - k) 0).map (Value.int .u8)).set k (.int .u8 c) = (List.replicate (k + 1) c ++ List.replicate (32 - (k + 1)) 0).map (Value.int .u8) := by
        rw [← List.map_set, show 32 - k = (32 - (k + 1)) + 1 by omega, List.replicate_succ (n := 32 - (k + 1)), List.set_append_right _ _ (by simp)]
        simp [List.replicate_succ']
      have HSET := Lib.hid hset
      clear hset
      go_wp2_with (first
    | ((with_reducible apply l_store hS); (· (first | exact rowT5)); (· exact rfl); (· (first | (go_simp; done) | (go_simp; with_reducible rfl))); (· (first | rfl | assumption | (simp [Value.oneCell']; done))); (· (repeat constructor)); (· (repeat constructor)); (· (repeat constructor)); clear hS; intro ws hS)
    | ((with_reducible apply l_storeR hS); (· (first | exact rowT5)); (· exact rfl); (· (first | (go_simp; done) | (go_simp; with_reducible rfl))); (· (first | rfl | assumption | (simp [Value.oneCell']; done))); (· (repeat constructor)); (· (first | assumption | omega | (simp; omega))); clear hS; intro ws hS))
      rw [HSET.out] at hS
      go_roundw
      case rel => exact ⟨k + 1, hlt, by go_num, hS⟩
      case measure => simp [intOf]; omega
    · obtain rfl : k = 32 := by omega
      go_wp2_with (first
    | ((with_reducible apply l_store hS); (· (first | exact rowT5)); (· exact rfl); (· (first | (go_simp; done) | (go_simp; with_reducible rfl))); (· (first | rfl | assumption | (simp [Value.oneCell']; done))); (· (repeat constructor)); (· (repeat constructor)); (· (repeat constructor)); clear hS; intro ws hS)
    | ((with_reducible apply l_storeR hS); (· (first | exact rowT5)); (· exact rfl); (· (first | (go_simp; done) | (go_simp; with_reducible rfl))); (· (first | rfl | assumption | (simp [Value.oneCell']; done))); (· (repeat constructor)); (· (first | assumption | omega | (simp; omega))); clear hS; intro ws hS))
      go_ret
      rw [show (List.replicate 32 c ++ List.replicate (32 - 32) (0 : Int)) = List.replicate 32 c from List.append_nil _] at hS
      obtain ⟨m7, hS7, _, hrd⟩ := hS.settleRow (L := u8L) (xs := List.replicate 32 c) 0 rfl (cells_of_ints fun x hx => by rw [(List.mem_replicate.1 hx).2]; exact HC.out) (by rw [List.length_replicate]; decide)
      exact ⟨_, m7, rfl, hrd, hS7.done⟩
set_option maxRecDepth 100000 in
set_option maxHeartbeats 4000000 in
theorem new_c (m : Mem) (w : World) (hm : m.In w) (n : Int) : Calls Try.prog 34 #[.int .i64 n] w (RetDE w m (newD n) (newE n)) := by
  have hS := St.start hm
  by_cases h : 1 ≤ n ∧ n ≤ 8192
  · obtain ⟨k, rfl⟩ : ∃ k : Nat, n = k := ⟨n.toNat, by omega⟩
    obtain ⟨h1, h2⟩ := h
    have H1 := Lib.hid (by omega : 1 ≤ k)
    have H2 := Lib.hid (by omega : k ≤ 8192)
    have E := Lib.hid (show newE k = 0 from if_neg (by omega))
    have D := Lib.hid (show newD k = ⟨List.replicate (k * 32) 0, [], -1, false⟩ from by unfold newD; rw [if_neg (by omega)]; simp)
    have hk := H2.out
    go_enter Try.func34, Try.ntmps34
    go_wp2_with (first
    | ((with_reducible apply l_alloc (ty := 44) (dst := some 2) hS (.agg #[.slice none 0 0, .slice none 0 0, .int .i64 0, .bool false]) [.slice none 0 0, .slice none 0 0, .int .i64 0, .bool false]); (· kernel_rfl); (· rfl); clear hS; intro w2 b2 hS)
    | ((with_reducible apply l_stores hS); (· (first | exact rowT44)); (· exact rfl); (· exact rfl); (· exact rfl); (· (first | assumption | (simp [Value.oneCell']; done))); (· (repeat constructor)); (· (repeat constructor)); (· (repeat constructor)); clear hS; intro ws hS)
      | ((with_reducible apply l_make el_u8 (k * 32) hS); (· exact rfl); (· exact rfl); (· omega); (· omega); (· omega); (· omega); (· simp only [maxLen]; omega); clear hS; intro w13 b13 hS; simp only [made_u8] at hS))
    refine ret_cell_tmp (n := 4) rfl rfl hS (by (repeat constructor)) (by rfl) dkRow rfl ?_
    rw [D.out]
    exact close_half E.out rfl rfl (inK64 (by omega) (by omega)) (by simp only [List.length_replicate]; exact hS) (fun x hx => by rw [(List.mem_replicate.1 hx).2]; simp [InK, IntKind.min, IntKind.max, IntKind.signed, IntKind.bits]) (Lay.nil_rd _ _) (by simp; omega)
  · have h' : n < 1 ∨ 8192 < n := by omega
    have E := Lib.hid (show newE n = 1 from if_pos h')
    have D := Lib.hid (show newD n = dk0 from if_pos h')
    rcases h' with h1 | h1
    all_goals
      clear h
      go_enter Try.func34, Try.ntmps34
      go_wp2_with (first
    | ((with_reducible apply l_alloc (ty := 44) (dst := some 2) hS (.agg #[.slice none 0 0, .slice none 0 0, .int .i64 0, .bool false]) [.slice none 0 0, .slice none 0 0, .int .i64 0, .bool false]); (· kernel_rfl); (· rfl); clear hS; intro w2 b2 hS)
    | ((with_reducible apply l_stores hS); (· (first | exact rowT44)); (· exact rfl); (· exact rfl); (· exact rfl); (· (first | assumption | (simp [Value.oneCell']; done))); (· (repeat constructor)); (· (repeat constructor)); (· (repeat constructor)); clear hS; intro ws hS))
      refine ret_cell_tmp (n := 4) rfl rfl hS (by (repeat constructor)) (by rfl) dkRow rfl ?_
      exact close_err E.out D.out hS
end Go.Proofs.Ytnmgiiaejpaeeaa
