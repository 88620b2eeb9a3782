/- Rows of the call's own, of any elements: cut, copied within, put together in place and anew, cleared behind their end. -/
import Derived.Test.YtlkdjmpkapeppaaG1
import Derived.Laws.CopyRow
import Derived.Lib.SliceRun
namespace Go.Proofs.Ytlkdjmpkapeppaa
set_option linter.unusedVariables false
set_option linter.unusedSimpArgs false
open Go.RowKit
variable {P : Program} {ops : Array Oper} {X : List Nat} {w0 w : World} {m0 m : Mem} {es : List Ent} {o : Oper} {a : Act} {K : Act → World → Prop} {Q : Exit → Act → World → Prop}
theorem ownsRow_cut {e : TypeId} {size g n c : Nat} {xs : List Value} (h : w.ownsRow 0 e size (.slice (some ⟨g, 0, none⟩) n c) n xs) (n' : Nat) (hn : n' ≤ c) :
    ∃ xs', w.ownsRow 0 e size (.slice (some ⟨g, 0, none⟩) n' c) n' xs' ∧ (n' ≤ n → xs' = xs.take (n' * size)) ∧ (n ≤ n' → xs'.take (n * size) = xs) := by
  rcases h.2 with ⟨e1, _⟩ | ⟨g', cap, cur, e1, hb, hg, h1, h2, h3, h4⟩
  · cases e1
  · cases e1
    have hl : cur.toList.length = c * size := by simpa using h3
    refine ⟨cur.toList.take (n' * size), ⟨by rw [List.length_take, hl, Nat.min_eq_left (Nat.mul_le_mul_right _ hn)], .inr ⟨g, c, cur, rfl, hb, hg, hn, h2, h3, rfl⟩⟩, fun hle => ?_, fun hle => ?_⟩
    · rw [← h4, List.take_take, Nat.min_eq_left (Nat.mul_le_mul_right _ hle)]
    · rw [List.take_take, Nat.min_eq_left (Nat.mul_le_mul_right _ hle), h4]
theorem grownBy_self (w : World) (r : Option Nat) : w.grownBy w r := ⟨rfl, rfl, rfl, Nat.le_refl _, fun _ _ _ => rfl⟩
/-- A row seen at another length. -/
theorem St.cut (hS : St X w0 m0 w es m) {e : TypeId} {size g n c : Nat} {xs : List Value} {f : Value → Nat → List Value → List Ent} (hi : RowAt es e size (.slice (some ⟨g, 0, none⟩) n c) n xs f) (n' : Nat) (hn : n' ≤ c) :
    ∃ xs', St X w0 m0 w (f (.slice (some ⟨g, 0, none⟩) n' c) n' xs') m ∧ (n' ≤ n → xs' = xs.take (n' * size)) ∧ (n ≤ n' → xs'.take (n * size) = xs) ∧ xs'.length = n' * size := by
  obtain ⟨i, hi1, hf⟩ := hi.at
  obtain ⟨xs', h1, h2, h3⟩ := ownsRow_cut (hS.row i hi1) n' hn
  exact ⟨xs', by rw [hf]; exact hS.set i _ _ hi1 (grownBy_self _ _) h1 (fun _ h => .inl h), h2, h3, h1.1⟩
theorem setRow_owns {e : TypeId} {size g n' c : Nat} {xs ys : List Value} {cur : Array Value} (hg : w.heap[g]? = some (.cells cur e (0, 0))) (hc : c ≤ maxLen) (hn : n' ≤ c) (hl : ys.length = c * size) (ht : ys.take (n' * size) = xs) :
    (w.setRow g ys.toArray).ownsRow 0 e size (.slice (some ⟨g, 0, none⟩) n' c) n' xs :=
  ⟨by rw [← ht, List.length_take, hl, Nat.min_eq_left (Nat.mul_le_mul_right _ hn)], .inr ⟨g, c, ys.toArray, rfl, Nat.zero_le _, setRow_heap w g cur _ e _ hg, hn, hc, by simpa using hl, by simpa using ht⟩⟩
theorem grownBy_setRow (w : World) (g : Nat) (cs : Array Value) : w.grownBy (w.setRow g cs) (some g) := ⟨rfl, rfl, rfl, by simp, fun k _ hk => setRow_other w g k _ (fun e => hk (by rw [e]))⟩
theorem op_appRoom (hS : St X w0 m0 w es m) {t e : TypeId} {size bytes : Nat} {z : Value} (hE : Elem P t e size bytes z) (s x : Operand) (ho : o.op = .call { callee := .builtin .append, args := #[s, x], argTypes := #[t, t] })
    {g n c k kc : Nat} {xs news : List Value} {p : Addr} {f : Value → Nat → List Value → List Ent} (hs : a.eval s = .slice (some ⟨g, 0, none⟩) n c) (hi : RowAt es e size (.slice (some ⟨g, 0, none⟩) n c) n xs f) (hx : a.eval x = .slice (some p) k kc) (hl : news.length = k * size)
    (hnews : ∀ j u, news[j]? = some u → w.cell? (p.add j) = some u) (h1 : ∀ u ∈ news, u.oneCell' = true) (hroom : n + k ≤ c)
    (h : ∀ w', St X w0 m0 w' (f (.slice (some ⟨g, 0, none⟩) (n + k) c) (n + k) (xs ++ news)) m → K (a.put o.dst (.slice (some ⟨g, 0, none⟩) (n + k) c)) w') : o.wp P a w K Q := by
  obtain ⟨ti, hi1, hi2, hi3, hi4⟩ := hE.at
  obtain ⟨i, hj, hf⟩ := hi.at
  have hown := hS.row i hj
  rcases hown.2 with ⟨e1, _⟩ | ⟨g', cap, cur, e1, hb, hg, k1, k2, k3, k4⟩
  · cases e1
  · cases e1
    subst hi3
    have hfit : n * ti.size + news.length ≤ cur.size := by rw [hl, k3, ← Nat.add_mul]; exact Nat.mul_le_mul_right _ hroom
    have hrun := run_append_room (P := P) w t o.type e ti hE.under hi1 g n c cur hg p k kc news hl hnews h1 hroom hfit
    have hcl : cur.toList.length = c * ti.size := by simpa using k3
    have hx0 : xs.length = n * ti.size := hown.1
    have hok := setRow_owns (w := w) (size := ti.size) (n' := n + k) (xs := xs ++ news) (ys := cur.toList.take (n * ti.size) ++ news ++ cur.toList.drop (n * ti.size + news.length)) hg k2 hroom (by
      rw [List.length_append, List.length_append, List.length_take, List.length_drop, hcl]; omega) (by
      rw [k4]; exact List.take_left' (by rw [List.length_append, hx0, hl, ← Nat.add_mul]))
    have hk := h _ (by
      rw [hf]
      exact hS.set i _ _ hj (grownBy_setRow _ _ _) hok (fun _ h => .inl h))
    unfold Oper.wp execOp
    simp only [ho, resolve, invoke, builtin, Sem.run_bind, Sem.run_pure, Result.andThen_ok, List.map_toArray, List.map_cons, List.map_nil, hs, hx, hrun]
    exact hk
theorem op_appGrow (hS : St X w0 m0 w es m) {t e : TypeId} {size bytes : Nat} {z : Value} (hE : Elem P t e size bytes z) (s x : Operand) (ho : o.op = .call { callee := .builtin .append, args := #[s, x], argTypes := #[t, t] })
    {g n c k kc j0 : Nat} {xs news : List Value} {p : Addr} {f : Value → Nat → List Value → List Ent} (hs : a.eval s = .slice (some ⟨g, 0, none⟩) j0 c) (hi : RowAt es e size (.slice (some ⟨g, 0, none⟩) n c) n xs f) (hj0 : j0 ≤ n) (hx : a.eval x = .slice (some p) k kc) (hl : news.length = k * size)
    (hnews : ∀ j u, news[j]? = some u → w.cell? (p.add j) = some u) (hroom : c < j0 + k) (h63 : j0 + k ≤ maxLen) (hbytes : (j0 + k) * bytes ≤ 140737488355328)
    (h : ∀ w' b c', j0 + k ≤ c' → c' ≤ maxLen → St X w0 m0 w' (.row e size (.slice (some ⟨b, 0, none⟩) (j0 + k) c') (j0 + k) (xs.take (j0 * size) ++ news) :: es) m → K (a.put o.dst (.slice (some ⟨b, 0, none⟩) (j0 + k) c')) w') : o.wp P a w K Q := by
  obtain ⟨ti, hi1, hi2, hi3, hi4⟩ := hE.at
  obtain ⟨i, hj, hf⟩ := hi.at
  have hown := hS.row i hj
  subst hi3 hi4
  have hx0 : xs.length = n * ti.size := hown.1
  have hlo : (xs.take (j0 * ti.size)).length = j0 * ti.size := by rw [List.length_take, hx0, Nat.min_eq_left (Nat.mul_le_mul_right _ hj0)]
  have holds : ∀ j u, (xs.take (j0 * ti.size))[j]? = some u → w.cell? ((⟨g, 0, none⟩ : Addr).add j) = some u := fun j u hu => by
    rw [List.getElem?_take] at hu
    split at hu
    · exact hown.cells (g := g) rfl j u hu
    · cases hu
  have hrun := run_append_grow (P := P) w t o.type e ti z hE.under hi1 hi2 ⟨g, 0, none⟩ j0 c (xs.take (j0 * ti.size)) hlo holds p k kc news hl hnews hroom (by simp only [maxLen] at h63; omega) (growslice_fits (by omega) hbytes)
  have hge := grownCap_ge w (j0 + k) c e
  have hle := grownCap_le_maxLen w (j0 + k) c e h63
  generalize grownCap w (j0 + k) c e = c' at *
  have hsz : ((xs.take (j0 * ti.size)).toArray ++ news.toArray ++ Builtin.zeroCells z.cells (c' - (j0 + k))).size = c' * ti.size := by
    simp only [Array.size_append, List.size_toArray, size_zeroCells, hlo, hl, hE.zsize]
    rw [← Nat.add_mul, ← Nat.add_mul]
    congr 1; omega
  have hok : (w.drew.alloc (.cells ((xs.take (j0 * ti.size)).toArray ++ news.toArray ++ Builtin.zeroCells z.cells (c' - (j0 + k))) e)).ownsRow 0 e ti.size (.slice (some ⟨w.heap.size, 0, none⟩) (j0 + k) c') (j0 + k) (xs.take (j0 * ti.size) ++ news) :=
    ⟨by rw [List.length_append, hlo, hl, Nat.add_mul], .inr ⟨w.heap.size, c', _, rfl, Nat.zero_le _, heap_alloc_new w.drew _, hge, hle, hsz, by
      rw [Array.toList_append, Array.toList_append]
      exact List.take_left' (by simp only [List.length_append, hlo, hl]; rw [Nat.add_mul])⟩⟩
  have hk := h _ w.heap.size c' hge hle (hS.add _ ((grownBy_drew w).trans (World.grownBy_alloc w.drew _ none)) hok (fun b hb => by simp [Ent.blk, Value.ownBlock] at hb; omega))
  unfold Oper.wp execOp
  simp only [ho, resolve, invoke, builtin, Sem.run_bind, Sem.run_pure, Result.andThen_ok, List.map_toArray, List.map_cons, List.map_nil, hs, hx, hrun]
  exact hk
theorem run_copy_wide (w : World) (dT sT ty elem : TypeId) (i : TypeInfo) (hu : P.underlying dT = some (.slice elem)) (hi : P.info? elem = some i) (g o dLen dCap : Nat) (p : Addr) (sLen sCap : Nat) (cur : Array Value) (t : TypeId) (cs : List Value)
    (hg : w.heap[g]? = some (.cells cur t (0, 0))) (hn : cs.length = Nat.min sLen dLen * i.size)
    (hsrc : ∀ j v, cs[j]? = some v → w.cell? (p.add j) = some v) (hfit : o + cs.length ≤ cur.size) (h1 : ∀ v ∈ cs, v.oneCell' = true) :
    (Builtin.copy_ #[dT, sT] ty #[.slice (some ⟨g, o, none⟩) dLen dCap, .slice (some p) sLen sCap]).run P w =
      .ok (goInt (Nat.min sLen dLen)) (w.setRow g (cur.toList.take o ++ cs ++ cur.toList.drop (o + cs.length)).toArray) := by
  have hf := run_firstCells_some (P := P) w i.size (Nat.min sLen dLen) p sLen sCap cs hn hsrc
  have hst := run_storeCells_at P g o t cs 0 cur w hg (by simpa using hfit) h1
  simp only [Nat.add_zero] at hst
  simp [Builtin.copy_, run_underlying hu, Builtin.lenOf, sizeOf, typeInfo, hi, hf, hst]
theorem op_copyRow (hS : St X w0 m0 w es m) {t e : TypeId} {size bytes : Nat} {z : Value} (hE : Elem P t e size bytes z) (d s : Operand) (sT : TypeId) (ho : o.op = .call { callee := .builtin .copy, args := #[d, s], argTypes := #[t, sT] })
    {g off n c dLen dCap sLen sCap : Nat} {xs cs : List Value} {p : Addr} {f : Value → Nat → List Value → List Ent} (hd : a.eval d = .slice (some ⟨g, off, none⟩) dLen dCap) (hi : RowAt es e size (.slice (some ⟨g, 0, none⟩) n c) n xs f)
    (hs : a.eval s = .slice (some p) sLen sCap) (hn : cs.length = Nat.min sLen dLen * size) (hsrc : ∀ j v, cs[j]? = some v → w.cell? (p.add j) = some v) (h1 : ∀ v ∈ cs, v.oneCell' = true) (hfit : off + cs.length ≤ xs.length)
    (h : ∀ w', St X w0 m0 w' (f (.slice (some ⟨g, 0, none⟩) n c) n (xs.take off ++ cs ++ xs.drop (off + cs.length))) m → K (a.put o.dst (goInt (Nat.min sLen dLen))) w') : o.wp P a w K Q := by
  obtain ⟨ti, hi1, hi2, hi3, hi4⟩ := hE.at
  obtain ⟨i, hj, hf⟩ := hi.at
  have hown := hS.row i hj
  rcases hown.2 with ⟨e1, _⟩ | ⟨g', cap, cur, e1, hb, hg, k1, k2, k3, k4⟩
  · cases e1
  · cases e1
    subst hi3
    have hcl : cur.toList.length = c * ti.size := by simpa using k3
    have hx0 : xs.length = n * ti.size := hown.1
    have hle : n * ti.size ≤ c * ti.size := Nat.mul_le_mul_right _ k1
    have hrun := run_copy_wide (P := P) w t sT o.type e ti hE.under hi1 g off dLen dCap p sLen sCap cur e cs hg hn hsrc (by rw [k3]; omega) h1
    have hok := setRow_owns (w := w) (size := ti.size) (n' := n) (xs := xs.take off ++ cs ++ xs.drop (off + cs.length)) (ys := cur.toList.take off ++ cs ++ cur.toList.drop (off + cs.length)) hg k2 k1 (by
      rw [List.length_append, List.length_append, List.length_take, List.length_drop, hcl]; omega) (by
      rw [← k4, List.take_take, List.drop_take, Nat.min_eq_left (by omega)]
      have hlen : (cur.toList.take off ++ cs).length = off + cs.length := by rw [List.length_append, List.length_take, hcl, Nat.min_eq_left (by omega)]
      rw [List.take_append, List.take_of_length_le (by rw [hlen]; omega), hlen])
    have hk := h _ (by
      rw [hf]
      exact hS.set i _ _ hj (grownBy_setRow _ _ _) hok (fun _ h => .inl h))
    unfold Oper.wp execOp
    simp only [ho, resolve, invoke, builtin, Sem.run_bind, Sem.run_pure, Result.andThen_ok, List.map_toArray, List.map_cons, List.map_nil, hd, hs, hrun]
    exact hk
theorem op_clearRow (hS : St X w0 m0 w es m) {t e : TypeId} {size bytes : Nat} {z : Value} (hE : Elem P t e size bytes z) (hz1 : ∀ v ∈ z.cells, v.oneCell' = true) (s : Operand) (ho : o.op = .call { callee := .builtin .clear, args := #[s], argTypes := #[t] })
    {g off n c k kc : Nat} {xs : List Value} {f : Value → Nat → List Value → List Ent} (hs : a.eval s = .slice (some ⟨g, off, none⟩) k kc) (hi : RowAt es e size (.slice (some ⟨g, 0, none⟩) n c) n xs f) (hoff : n * size ≤ off) (hfit : off + k * size ≤ c * size)
    (h : ∀ w', St X w0 m0 w' (f (.slice (some ⟨g, 0, none⟩) n c) n xs) m → K (a.put o.dst (.tuple #[])) w') : o.wp P a w K Q := by
  obtain ⟨ti, hi1, hi2, hi3, hi4⟩ := hE.at
  obtain ⟨i, hj, hf⟩ := hi.at
  have hown := hS.row i hj
  rcases hown.2 with ⟨e1, _⟩ | ⟨g', cap, cur, e1, hb, hg, k1, k2, k3, k4⟩
  · cases e1
  · cases e1
    subst hi3
    have hcl : cur.toList.length = c * ti.size := by simpa using k3
    by_cases hk0 : k = 0
    · subst hk0
      have hrun : (Builtin.clear_ #[t] o.type #[.slice (some ⟨g, off, none⟩) 0 kc]).run P w = .ok (.tuple #[]) w := by
        simp [Builtin.clear_, run_underlying hE.under]
      have hk := h w (by rw [hf]; exact hS.set i _ _ hj (grownBy_self _ _) hown (fun _ h => .inl h))
      unfold Oper.wp execOp
      simp only [ho, resolve, invoke, builtin, Sem.run_bind, Sem.run_pure, Result.andThen_ok, List.map_toArray, List.map_cons, List.map_nil, hs, hrun]
      exact hk
    · have hzl : (Builtin.zeroCells z.cells k).toList.length = k * ti.size := by rw [Array.length_toList, size_zeroCells, hE.zsize]
      have hz2 : ∀ v ∈ (Builtin.zeroCells z.cells k).toList, v.oneCell' = true := fun v hv => by
        have hv2 : v ∈ Builtin.zeroCells z.cells k := by simpa using hv
        unfold Builtin.zeroCells at hv2
        obtain ⟨j, _, rfl⟩ := Array.mem_map.1 hv2
        have hpos := hE.pos
        have hzs := hE.zsize
        have hj2 : j % z.cells.size < z.cells.size := Nat.mod_lt _ (by omega)
        rw [getElem!_pos z.cells _ hj2]
        exact hz1 _ (by simp)
      have hst := run_storeCells_at P g off e (Builtin.zeroCells z.cells k).toList 0 cur w hg (by rw [hzl, k3]; omega) hz2
      simp only [Nat.add_zero] at hst
      have hrun : (Builtin.clear_ #[t] o.type #[.slice (some ⟨g, off, none⟩) k kc]).run P w = .ok (.tuple #[]) (w.setRow g (cur.toList.take off ++ (Builtin.zeroCells z.cells k).toList ++ cur.toList.drop (off + (Builtin.zeroCells z.cells k).toList.length)).toArray) := by
        obtain ⟨k', rfl⟩ : ∃ q, k = q + 1 := ⟨k - 1, by omega⟩
        have hzv : (zeroValue e).run P w = .ok z w := by simp [zeroValue, typeInfo, hi1, hi2]
        simp [Builtin.clear_, run_underlying hE.under, hzv, hst]
      have hok := setRow_owns (w := w) (size := ti.size) (n' := n) (xs := xs) (ys := cur.toList.take off ++ (Builtin.zeroCells z.cells k).toList ++ cur.toList.drop (off + (Builtin.zeroCells z.cells k).toList.length)) hg k2 k1 (by
        rw [List.length_append, List.length_append, List.length_take, List.length_drop, hcl, hzl]; omega) (by
        rw [List.append_assoc, List.take_append_of_le_length (by rw [List.length_take, hcl]; omega), List.take_take, Nat.min_eq_left hoff, k4])
      have hk := h _ (by
        rw [hf]
        exact hS.set i _ _ hj (grownBy_setRow _ _ _) hok (fun _ h => .inl h))
      unfold Oper.wp execOp
      simp only [ho, resolve, invoke, builtin, Sem.run_bind, Sem.run_pure, Result.andThen_ok, List.map_toArray, List.map_cons, List.map_nil, hs, hrun]
      exact hk
theorem ret_cell_tmp3 {fn : Func} {R : Ending → World → Prop} {a : Act} {p u u2 : Tmp} {ty : TypeId} {b n : Nat} {vs : List Value} (h : fn.results = #[.tmp u, .cell p ty, .tmp u2]) (hp : a.tmps.getD p undef = .pointer (some ⟨b, 0, none⟩)) (hS : St X w0 m0 w es m) (hM : Ent.box b vs ∈ es) (hl : vs.length = n)
    (hn : ∃ d, P.underlying ty = some d ∧ d.isRow = true ∧ (P.info? ty).map (·.size) = some n) (hd : a.defers = []) (hR : R (.returned (.tuple #[a.tmps.getD u undef, .agg vs.toArray, a.tmps.getD u2 undef])) w) : bodyPost P fn R .ret a w := by
  obtain ⟨d, h1, h2, h3⟩ := hn
  have hb : BoxIn w b vs := (hS.has _ hM).1
  have hrun := run_loadVar_mid (P := P) w b 0 ty vs d (fun j v hj => by rw [Nat.zero_add]; exact (hb.get j v hj).1) h1 h2 (by rw [hl]; exact h3)
  have hp' : a.tmps[p]?.getD undef = .pointer (some ⟨b, 0, none⟩) := by simpa using hp
  refine bodyPost_ret_by ?_ hd hR
  simp [results, h, hp', asAddr, hrun]
theorem flatten_cut {n : Nat} : ∀ (css : List (List Value)) (k : Nat), (∀ c ∈ css, c.length = n) → css.flatten.take (k * n) = (css.take k).flatten ∧ css.flatten.drop (k * n) = (css.drop k).flatten
  | [], k, _ => by simp
  | c :: css, 0, _ => by simp
  | c :: css, k + 1, h => by
    obtain ⟨h1, h2⟩ := flatten_cut css k fun x hx => h x (List.mem_cons_of_mem _ hx)
    have hc : c.length = n := h c List.mem_cons_self
    have e : (k + 1) * n = c.length + k * n := by rw [hc, Nat.add_mul]; omega
    rw [List.flatten_cons, e]
    refine ⟨?_, ?_⟩
    · rw [List.take_length_add_append, h1]; rfl
    · rw [List.drop_length_add_append, h2]; rfl
theorem CellsOf.cut {α : Type} {L : Lay α} {m : Mem} {cells : List Value} {xs : List α} (h : CellsOf L m cells xs) (k : Nat) : CellsOf L m (cells.take (k * L.n)) (xs.take k) ∧ CellsOf L m (cells.drop (k * L.n)) (xs.drop k) := by
  obtain ⟨css, rfl, h2, h3⟩ := h
  obtain ⟨e1, e2⟩ := flatten_cut css k (CellsOf.lens h2 h3)
  rw [e1, e2]
  refine ⟨⟨css.take k, rfl, by simp [h2], fun i cs x hc hx => ?_⟩, ⟨css.drop k, rfl, by simp [h2], fun i cs x hc hx => ?_⟩⟩
  · rw [List.getElem?_take] at hc hx
    split at hc
    · rename_i hlt
      rw [if_pos hlt] at hx
      exact h3 i cs x hc hx
    · cases hc
  · rw [List.getElem?_drop] at hc hx
    exact h3 _ cs x hc hx
section
variable {rest : List Oper} {dst : Option Tmp} {rt : TypeId} {pos : String} {af : Array Edge} {E : Prop} {t e : TypeId} {size bytes : Nat} {z : Value} {g n c k kc j0 off dLen dCap sLen sCap : Nat} {xs news cs : List Value} {p : Addr} {f : Value → Nat → List Value → List Ent} {s x d : Operand} {sT : TypeId}
theorem wl_appRoom (hS : St X w0 m0 w es m) (hE : Elem P t e size bytes z) (hs : a.eval s = .slice (some ⟨g, 0, none⟩) n c) (hi : RowAt es e size (.slice (some ⟨g, 0, none⟩) n c) n xs f) (hx : a.eval x = .slice (some p) k kc) (hl : news.length = k * size)
    (hnews : ∀ j u, news[j]? = some u → w.cell? (p.add j) = some u) (h1 : ∀ u ∈ news, u.oneCell' = true) (hroom : n + k ≤ c)
    (h : ∀ w', St X w0 m0 w' (f (.slice (some ⟨g, 0, none⟩) (n + k) c) (n + k) (xs ++ news)) m → wpList P ops Q rest (a.put dst (.slice (some ⟨g, 0, none⟩) (n + k) c)) w') : Wl P ops Q (⟨dst, .call { callee := .builtin .append, args := #[s, x], argTypes := #[t, t] }, rt, pos, af, none⟩ :: rest) a w :=
  ⟨wpList_plain rfl fun K hK => op_appRoom hS hE s x rfl hs hi hx hl hnews h1 hroom fun w' hw => hK _ _ (h w' hw)⟩
theorem wl_appGrow (hS : St X w0 m0 w es m) (hE : Elem P t e size bytes z) (hs : a.eval s = .slice (some ⟨g, 0, none⟩) j0 c) (hi : RowAt es e size (.slice (some ⟨g, 0, none⟩) n c) n xs f) (hj0 : j0 ≤ n) (hx : a.eval x = .slice (some p) k kc) (hl : news.length = k * size)
    (hnews : ∀ j u, news[j]? = some u → w.cell? (p.add j) = some u) (hroom : c < j0 + k) (h63 : j0 + k ≤ maxLen) (hbytes : (j0 + k) * bytes ≤ 140737488355328)
    (h : ∀ w' b c', j0 + k ≤ c' → c' ≤ maxLen → St X w0 m0 w' (.row e size (.slice (some ⟨b, 0, none⟩) (j0 + k) c') (j0 + k) (xs.take (j0 * size) ++ news) :: es) m → wpList P ops Q rest (a.put dst (.slice (some ⟨b, 0, none⟩) (j0 + k) c')) w') : Wl P ops Q (⟨dst, .call { callee := .builtin .append, args := #[s, x], argTypes := #[t, t] }, rt, pos, af, none⟩ :: rest) a w :=
  ⟨wpList_plain rfl fun K hK => op_appGrow hS hE s x rfl hs hi hj0 hx hl hnews hroom h63 hbytes fun w' b c' h1 h2 hw => hK _ _ (h w' b c' h1 h2 hw)⟩
theorem wl_copyRow (hS : St X w0 m0 w es m) (hE : Elem P t e size bytes z) (hd : a.eval d = .slice (some ⟨g, off, none⟩) dLen dCap) (hi : RowAt es e size (.slice (some ⟨g, 0, none⟩) n c) n xs f)
    (hs : a.eval s = .slice (some p) sLen sCap) (hn : cs.length = Nat.min sLen dLen * size) (hsrc : ∀ j v, cs[j]? = some v → w.cell? (p.add j) = some v) (h1 : ∀ v ∈ cs, v.oneCell' = true) (hfit : off + cs.length ≤ xs.length)
    (h : ∀ w', St X w0 m0 w' (f (.slice (some ⟨g, 0, none⟩) n c) n (xs.take off ++ cs ++ xs.drop (off + cs.length))) m → wpList P ops Q rest (a.put dst (goInt (Nat.min sLen dLen))) w') : Wl P ops Q (⟨dst, .call { callee := .builtin .copy, args := #[d, s], argTypes := #[t, sT] }, rt, pos, af, none⟩ :: rest) a w :=
  ⟨wpList_plain rfl fun K hK => op_copyRow hS hE d s sT rfl hd hi hs hn hsrc h1 hfit fun w' hw => hK _ _ (h w' hw)⟩
theorem s_copyRow (hS : St X w0 m0 w es m) (hE : Elem P t e size bytes z) (hd : a.eval d = .slice (some ⟨g, off, none⟩) dLen dCap) (hi : RowAt es e size (.slice (some ⟨g, 0, none⟩) n c) n xs f)
    (hs : a.eval s = .slice (some p) sLen sCap) (hn : cs.length = Nat.min sLen dLen * size) (hsrc : ∀ j v, cs[j]? = some v → w.cell? (p.add j) = some v) (h1 : ∀ v ∈ cs, v.oneCell' = true) (hfit : off + cs.length ≤ xs.length)
    (h : ∀ w', St X w0 m0 w' (f (.slice (some ⟨g, 0, none⟩) n c) n (xs.take off ++ cs ++ xs.drop (off + cs.length))) m → K (a.put dst (goInt (Nat.min sLen dLen))) w') : if Region.wanted ⟨dst, .call { callee := .builtin .copy, args := #[d, s], argTypes := #[t, sT] }, rt, pos, af, none⟩ (yielded ops a.tmps) = true then Oper.wp P ⟨dst, .call { callee := .builtin .copy, args := #[d, s], argTypes := #[t, sT] }, rt, pos, af, none⟩ a w K Q else E :=
  step_of rfl (op_copyRow hS hE d s sT rfl hd hi hs hn hsrc h1 hfit h)
theorem wl_clearRow (hS : St X w0 m0 w es m) (hE : Elem P t e size bytes z) (hz1 : ∀ v ∈ z.cells, v.oneCell' = true) (hs : a.eval s = .slice (some ⟨g, off, none⟩) k kc) (hi : RowAt es e size (.slice (some ⟨g, 0, none⟩) n c) n xs f) (hoff : n * size ≤ off) (hfit : off + k * size ≤ c * size)
    (h : ∀ w', St X w0 m0 w' (f (.slice (some ⟨g, 0, none⟩) n c) n xs) m → wpList P ops Q rest (a.put dst (.tuple #[])) w') : Wl P ops Q (⟨dst, .call { callee := .builtin .clear, args := #[s], argTypes := #[t] }, rt, pos, af, none⟩ :: rest) a w :=
  ⟨wpList_plain rfl fun K hK => op_clearRow hS hE hz1 s rfl hs hi hoff hfit fun w' hw => hK _ _ (h w' hw)⟩
end
end Go.Proofs.Ytlkdjmpkapeppaa
