/- Contracts of bytes.Clone, slices.Clone at writes, and disk.own: a disk of one's own. -/
import Derived.Test.YtnmgiiaejpaeeaaDk1
import Derived.Test.YtnmgiiaejpaeeaaApp
import Derived.Test.YtnmgiiaejpaeeaaShelf
import Derived.Deep.DrawnRows
namespace Go.Proofs.Ytnmgiiaejpaeeaa
set_option linter.unusedVariables false
set_option linter.unusedSimpArgs false
open Go.RowKit

theorem clone_rd (p : Option Addr) (c : Nat) (xs : List Int) (w : World) (hr : Rd .u8 w p xs) (hx : xs.length ≤ 140737488355328) :
    Calls Try.prog 73 #[.slice p xs.length c] w fun e w' => ∃ v, e = .returned v ∧ Own .u8 5 w' w.heap.size v xs ∧ Below w.heap.size w w' := by
  cases p with
  | none =>
    have : xs = [] := by
      rcases Nat.eq_zero_or_pos xs.length with h | h
      · exact List.eq_nil_of_length_eq_zero h
      · obtain ⟨b, o, e, _⟩ := hr h; cases e
    subst this
    refine (Try.bytes_Clone_nil 0 c w).mono ?_
    rintro e w' ⟨rfl, rfl⟩
    exact ⟨_, rfl, Own.nil _ _ _ _, Below.refl _ _⟩
  | some a =>
    refine (Try.bytes_Clone_at a xs.length c xs w rfl hx (fun i hi => by
      obtain ⟨b, o, e, hc⟩ := hr (by omega)
      obtain rfl := Option.some.inj e
      rw [Addr.add_lit]; exact hc i hi)).mono ?_
    rintro e w' ⟨v, rfl, ho, _, hb⟩
    exact ⟨v, rfl, ho, hb⟩

/-- The cells of a row of writes, in a world; what is written lies in blocks that are ok. -/
def WetRow (w : World) (ok : Nat → Prop) (cells : List Value) (ws : List Wr) : Prop :=
  ∀ i x, ws[i]? = some x → cells[i * 2]? = some (.int .i64 x.pos) ∧ ∃ q c, cells[i * 2 + 1]? = some (.slice q x.b.length c) ∧ x.b.length ≤ c ∧ c ≤ maxLen ∧ (0 < x.b.length → ∀ a, q = some a → ok a.block) ∧ Rd .u8 w q x.b
theorem WetRow.below {w w' : World} {ok : Nat → Prop} {cells : List Value} {ws : List Wr} (h : WetRow w ok cells ws) (hb : Below w.heap.size w w') : WetRow w' ok cells ws := fun i x hx => by
  obtain ⟨h1, q, c, h2, h3, h4, h5, h6⟩ := h i x hx
  exact ⟨h1, q, c, h2, h3, h4, h5, h6.below hb⟩
theorem WetRow.imp {w : World} {ok ok' : Nat → Prop} {cells : List Value} {ws : List Wr} (h : WetRow w ok cells ws) (hi : ∀ b, ok b → ok' b) : WetRow w ok' cells ws := fun i x hx => by
  obtain ⟨h1, q, c, h2, h3, h4, h5, h6⟩ := h i x hx
  exact ⟨h1, q, c, h2, h3, h4, fun h0 a ha => hi _ (h5 h0 a ha), h6⟩
/-- Rd, where one row was turned. -/
theorem Rd.grown {k : IntKind} {w w' : World} {p : Option Addr} {xs : List Int} {g : Nat} (h : Rd k w p xs) (hg : w.grownBy w' (some g)) (hn : 0 < xs.length → ∀ a, p = some a → a.block ≠ g) : Rd k w' p xs := fun h0 => by
  obtain ⟨b, o, rfl, hc⟩ := h h0
  exact ⟨b, o, rfl, fun i hi => hg.cell (hc i hi) fun e => hn h0 _ rfl (Option.some.inj e)⟩
theorem WetRow.grown {w w' : World} {ok : Nat → Prop} {g : Nat} {cells : List Value} {ws : List Wr} (h : WetRow w ok cells ws) (hb : w.grownBy w' (some g)) (hk : ¬ ok g) : WetRow w' ok cells ws := fun i x hx => by
  obtain ⟨h1, q, c, h2, h3, h4, h5, h6⟩ := h i x hx
  exact ⟨h1, q, c, h2, h3, h4, h5, h6.grown hb fun h0 a ha e => hk (e ▸ h5 h0 a ha)⟩
def rowCells (w : World) (b o m : Nat) : List Value := (List.range m).map fun j => (w.cell? ⟨b, o + j, none⟩).getD (.bool false)
theorem rowCells_get (w : World) (b o m j : Nat) (h : j < m) : (rowCells w b o m)[j]? = some ((w.cell? ⟨b, o + j, none⟩).getD (.bool false)) := by
  simp [rowCells, h]
theorem info_wr : (Try.prog.info? 102).map (fun i => (i.zero, i.size, i.bytes)) = some (some (.agg #[.int .i64 0, .slice none 0 0]), 2, 32) := by kernel_rfl
theorem RdW.row {w : World} {b o : Nat} {ws : List Wr} (h : ∀ i x, ws[i]? = some x → w.cell? ⟨b, o + i * 2, none⟩ = some (.int .i64 x.pos) ∧
    ∃ q c, w.cell? ⟨b, o + i * 2 + 1, none⟩ = some (.slice q x.b.length c) ∧ x.b.length ≤ c ∧ c ≤ maxLen ∧ Rd .u8 w q x.b) :
    WetRow w (· < w.heap.size) (rowCells w b o (ws.length * 2)) ws ∧ (∀ j u, (rowCells w b o (ws.length * 2))[j]? = some u → w.cell? ⟨b, o + j, none⟩ = some u ∧ u.oneCell' = true) := by
  constructor
  · intro i x hx
    have hi := (List.getElem?_eq_some_iff.1 hx).1
    obtain ⟨h1, q, c, h2, h3, h4, h5⟩ := h i x hx
    refine ⟨by rw [rowCells_get _ _ _ _ _ (by omega), h1]; rfl, q, c, ?_, h3, h4, ?_, h5⟩
    · rw [rowCells_get _ _ _ _ _ (by omega), show o + (i * 2 + 1) = o + i * 2 + 1 by omega, h2]; rfl
    · intro h0 a ha
      obtain ⟨b', o', e, hc⟩ := h5 h0
      rw [e] at ha
      obtain rfl := Option.some.inj ha
      exact World.block_lt_of_cell? w _ (hc 0 h0)
  · intro j u hj
    have hl : j < ws.length * 2 := by
      have := (List.getElem?_eq_some_iff.1 hj).1
      simpa [rowCells] using this
    rw [rowCells_get _ _ _ _ _ hl] at hj
    have hi : j / 2 < ws.length := by omega
    obtain ⟨h1, q, c, h2, _⟩ := h (j / 2) _ (List.getElem?_eq_getElem hi)
    rcases Nat.mod_two_eq_zero_or_one j with hm | hm
    · rw [show o + j / 2 * 2 = o + j by omega] at h1
      rw [h1] at hj ⊢
      simp at hj
      subst hj
      exact ⟨rfl, rfl⟩
    · rw [show o + j / 2 * 2 + 1 = o + j by omega] at h2
      rw [h2] at hj ⊢
      simp at hj
      subst hj
      exact ⟨rfl, rfl⟩
set_option maxRecDepth 100000 in
set_option maxHeartbeats 2000000 in
theorem wclone_rd (q : Option Addr) (c : Nat) (ws : List Wr) (w0 w : World) (hr : RdW w0 q ws) (hb : Below w0.heap.size w0 w) (hx : ws.length * 32 ≤ 140737488355328) :
    Calls Try.prog 94 #[.slice q ws.length c] w fun e w' => ∃ v cells, e = .returned v ∧ w'.ownsRow w.heap.size 102 2 v ws.length cells ∧ WetRow w' (· < w0.heap.size) cells ws ∧ Below w.heap.size w w' := by
  have qn : ∀ (w : World) (a : Option Addr) (n c n' c' : Nat), (binOp .eql 42 (.slice a n c) (.slice none n' c')).run Try.prog w = .ok (.bool a.isNone) w := fun w a n c n' c' => Lib.run_eql_slice_nil w _ _ a n c n' c' Try.underlying42
  obtain ⟨i0, hi, hz0, hz1, hz2⟩ := info_parts info_wr
  have ze : ∀ w, Sem.run Try.prog (Go.sizeOf 102) w = .ok 2 w := fun w => by simp [Go.sizeOf, typeInfo, hi, hz1]
  cases q with
  | none =>
    have : ws = [] := by
      rcases Nat.eq_zero_or_pos ws.length with h | h
      · exact List.eq_nil_of_length_eq_zero h
      · obtain ⟨b, o, e, _⟩ := hr h; cases e
    subst this
    go_enter Try.func94, Try.ntmps94
    go_wp2
    go_ret
    exact ⟨_, [], rfl, World.ownsRow_nil _ _ _ _, fun i x hx => by simp at hx, Below.refl _ _⟩
  | some a =>
    obtain ⟨cells, hl, hrow, hcell⟩ : ∃ cells : List Value, cells.length = ws.length * 2 ∧ WetRow w0 (· < w0.heap.size) cells ws ∧ ∀ j u, cells[j]? = some u → w0.cell? (a.add j) = some u ∧ u.oneCell' = true := by
      rcases Nat.eq_zero_or_pos ws.length with h | h
      · exact ⟨[], by simp [h], fun i x hx => by rw [List.eq_nil_of_length_eq_zero h] at hx; simp at hx, fun j u hj => by simp at hj⟩
      · obtain ⟨b, o, e, hc⟩ := hr h
        obtain rfl := Option.some.inj e
        have := RdW.row hc
        exact ⟨rowCells w0 b o (ws.length * 2), by simp [rowCells], this.1, fun j u hj => by rw [Addr.add_lit]; exact this.2 j u hj⟩
    have A : Hid (∀ j u, cells[j]? = some u → w.cell? (a.add j) = some u) := Lib.hid fun j u hj => cell_below hb (hcell j u hj).1
    have A1 : Hid (∀ u ∈ cells, u.oneCell' = true) := Lib.hid fun u hu => by
      obtain ⟨j, hj⟩ := List.getElem?_of_mem hu
      exact (hcell j u hj).2
    have HR := Lib.hid (hrow.below hb)
    have HL := Lib.hid hl
    generalize ws.length = n at *
    clear hcell hrow hr hb hl
    go_enter Try.func94, Try.ntmps94
    go_wp2_with (at_builtin; refine wpList_append_own _ rfl _ _ 42 rfl w.heap.size 102 i0 (.agg #[.int .i64 0, .slice none 0 0]) 2 32 Try.underlying42 hi hz0 hz1 hz2 rfl (by decide) _ _ _ rfl (World.ownsRow_made w #[] 0 (Nat.le_refl _) (Nat.zero_le _) rfl) a n c cells rfl ?qc1 ?qc2 ?qc3 ?qc4 ?qc5 ?qc6 ?_)
    case qc1 => exact HL.out
    case qc2 => intro j u hj; exact Lib.cell?_alloc_some _ (A.out j u hj)
    case qc3 => exact A1.out
    case qc4 => unfold maxLen; omega
    case qc5 => omega
    case qc6 => simp
    intro v' w1 hown hgrow hnil
    go_wp2
    go_ret
    have hb2 : Below w.heap.size w w1 := (below_new w _).grown hgrow (by simp) (by intro k hk; simp [Value.ownBlock] at hk; omega)
    exact ⟨v', cells, rfl, by simpa using hown, HR.out.below hb2, hb2⟩
structure DkBig (d : Dk) : Prop where
  (dry : d.dry.length ≤ 140737488355328) (wet : d.wet.length * 32 ≤ 140737488355328) (each : ∀ x ∈ d.wet, x.b.length ≤ 140737488355328)
/-- A disk of the call's own: its octets are the block g; what is written lies below lo, or from hi on. -/
structure OwnDk (w : World) (lo mid hi g cd : Nat) (q : Option Addr) (e : Nat) (cells : List Value) (d : Dk) : Prop where
  (dry : Own .u8 5 w mid (.slice (some ⟨g, 0, none⟩) d.dry.length cd) d.dry)
  (wet : w.ownsRow mid 102 2 (.slice q d.wet.length e) d.wet.length cells)
  (row : WetRow w (fun b => b < lo ∨ hi ≤ b) cells d.wet)
  (ne : ∀ a, q = some a → a.block ≠ g ∧ a.block < hi)
  (lt : g < hi)
/-- The cells of a box: a whole block. -/
def BoxOf (w : World) (T : Nat) (vs : List Value) : Prop := ∃ t, w.heap[T]? = some (.cells vs.toArray t (0, 0))
theorem BoxOf.get {w : World} {T : Nat} {vs : List Value} (h : BoxOf w T vs) (i : Nat) (v : Value) (hv : vs[i]? = some v) : w.cell? ⟨T, i, none⟩ = some v ∧ w.frozen? ⟨T, i, none⟩ = false := by
  obtain ⟨t, h⟩ := h
  exact ⟨by rw [cell_of_row _ _ _ _ _ _ h]; simpa using hv, frozen_of_row w T _ _ _ h⟩
theorem BoxOf.lt {w : World} {T : Nat} {vs : List Value} (h : BoxOf w T vs) : T < w.heap.size := by
  obtain ⟨t, h⟩ := h
  exact (Array.getElem?_eq_some_iff.1 h).1
theorem BoxOf.below {w w' : World} {T : Nat} {vs : List Value} (h : BoxOf w T vs) (hb : Below w.heap.size w w') : BoxOf w' T vs := by
  have hl := h.lt
  obtain ⟨t, h⟩ := h
  exact ⟨t, (hb.block T hl).trans h⟩
theorem BoxOf.grown {w w' : World} {T g : Nat} {vs : List Value} (h : BoxOf w T vs) (hb : w.grownBy w' (some g)) (hn : T ≠ g) : BoxOf w' T vs := by
  have hl := h.lt
  obtain ⟨t, h⟩ := h
  exact ⟨t, (hb.block T hl fun e => hn (Option.some.inj e)).trans h⟩
theorem BoxOf.of_heap {w : World} {T : Nat} {vs : List Value} {t : TypeId} (h : w.heap[T]? = some (.cells vs.toArray t (0, 0))) : BoxOf w T vs := ⟨t, h⟩
theorem BoxOf.drew {w : World} {T : Nat} {vs : List Value} (h : BoxOf w T vs) : BoxOf w.drew T vs := h
theorem BoxOf.alloc {w : World} {T : Nat} {vs : List Value} (h : BoxOf w T vs) (o : Obj) : BoxOf (w.alloc o) T vs := h.below (below_new w o)
theorem BoxOf.new (w : World) (vs : List Value) (t : TypeId) : BoxOf (w.alloc (.cells vs.toArray t)) w.heap.size vs := BoxOf.of_heap (heap_alloc_new w _)
theorem size_alloc (w : World) (o : Obj) : (w.alloc o).heap.size = w.heap.size + 1 := by simp
theorem box_two (w : World) (a b : List Value) (t u : TypeId) : BoxOf (((w.alloc (.cells a.toArray t)).alloc (.cells b.toArray u)).drew) w.heap.size a ∧ BoxOf (((w.alloc (.cells a.toArray t)).alloc (.cells b.toArray u)).drew) (w.heap.size + 1) b :=
  ⟨((BoxOf.new w a t).alloc _).drew, by have := (BoxOf.new (w.alloc (.cells a.toArray t)) b u).drew; rwa [size_alloc] at this⟩
theorem Own.form {k : IntKind} {e : TypeId} {w : World} {B : Nat} {v : Value} {xs : List Int} (h : Own k e w B v xs) (h0 : 0 < xs.length) : ∃ g cd, v = .slice (some ⟨g, 0, none⟩) xs.length cd ∧ B ≤ g ∧ g < w.heap.size := by
  rcases h.2 with ⟨_, hn⟩ | ⟨g, cap, cur, rfl, hb, hg, _⟩
  · omega
  · exact ⟨g, cap, rfl, hb, (Array.getElem?_eq_some_iff.1 hg).1⟩
theorem ownsRow_form {w : World} {B size n : Nat} {e : TypeId} {v : Value} {xs : List Value} (h : w.ownsRow B e size v n xs) : ∃ q c, v = .slice q n c ∧ ∀ a, q = some a → B ≤ a.block ∧ a.block < w.heap.size := by
  rcases h.2 with ⟨rfl, hn⟩ | ⟨g, cap, cur, rfl, hb, hg, _⟩
  · exact ⟨none, 0, by rw [hn], by simp⟩
  · exact ⟨_, cap, rfl, fun a ha => by obtain rfl := Option.some.inj ha; exact ⟨hb, (Array.getElem?_eq_some_iff.1 hg).1⟩⟩
theorem ownsRow_base {w : World} {B B' size n : Nat} {e : TypeId} {v : Value} {xs : List Value} (h : w.ownsRow B e size v n xs) (hb : B' ≤ B) : w.ownsRow B' e size v n xs := by
  refine ⟨h.1, ?_⟩
  rcases h.2 with h2 | ⟨g, cap, cur, rfl, hg, r⟩
  · exact .inl h2
  · exact .inr ⟨g, cap, cur, rfl, Nat.le_trans hb hg, r⟩
theorem ownsRow_head {w : World} {B size n : Nat} {e : TypeId} {q : Option Addr} {m c : Nat} {xs : List Value} (h : w.ownsRow B e size (.slice q m c) n xs) (h0 : 0 < n) : ∃ g, q = some ⟨g, 0, none⟩ ∧ m = n ∧ n ≤ c ∧ c ≤ maxLen ∧ B ≤ g ∧ (∀ j u, xs[j]? = some u → w.cell? ⟨g, j, none⟩ = some u ∧ w.frozen? ⟨g, j, none⟩ = false) := by
  have hc := fun g hg => World.ownsRow.cells h (g := g) hg
  rcases h.2 with ⟨e, hn⟩ | ⟨g, cap, cur, e, hb, hg, h1, h2, h3, h4⟩
  · omega
  · cases e
    refine ⟨g, rfl, rfl, h1, h2, hb, fun j u hj => ⟨?_, frozen_of_row w g _ _ _ hg⟩⟩
    have := hc g rfl j u hj
    rwa [Addr.add_lit, Nat.zero_add] at this
theorem grownBy_set (w : World) (a : Addr) (v : Value) : w.grownBy (w.setCell a v) (some a.block) :=
  ⟨rfl, rfl, rfl, by simp, fun k _ hne => heap_setCell_other w a k v fun e => hne (by rw [e])⟩
theorem BoxOf.set {w : World} {T : Nat} {vs : List Value} (h : BoxOf w T vs) (i : Nat) (v : Value) : BoxOf (w.setCell ⟨T, i, none⟩ v) T (vs.set i v) := by
  obtain ⟨t, h⟩ := h
  refine ⟨t, ?_⟩
  rw [heap_setCell_same w T i _ _ v h]
  simp
theorem BoxOf.setOther {w : World} {T : Nat} {vs : List Value} (h : BoxOf w T vs) (a : Addr) (v : Value) (hn : T ≠ a.block) : BoxOf (w.setCell a v) T vs := h.grown (grownBy_set w a v) hn
theorem ownsRow_set {w : World} {B size n g c : Nat} {e : TypeId} {xs : List Value} (h : w.ownsRow B e size (.slice (some ⟨g, 0, none⟩) n c) n xs) (j : Nat) (v : Value) (hj : j < n * size) :
    (w.setCell ⟨g, j, none⟩ v).ownsRow B e size (.slice (some ⟨g, 0, none⟩) n c) n (xs.set j v) := by
  refine ⟨by rw [List.length_set]; exact h.1, ?_⟩
  rcases h.2 with ⟨e, _⟩ | ⟨g', cap, cur, e, hb, hg, h1, h2, h3, h4⟩
  · cases e
  · cases e
    refine .inr ⟨g, c, cur.setIfInBounds j v, rfl, hb, heap_setCell_same w g j cur _ v hg, h1, h2, by simpa using h3, ?_⟩
    rw [Array.toList_setIfInBounds, ← h4, List.take_set]
theorem OwnDk.grown {w w' : World} {lo mid hi g cd : Nat} {q : Option Addr} {e : Nat} {cells : List Value} {d : Dk} {r : Nat} (h : OwnDk w lo mid hi g cd q e cells d) (hg : w.grownBy w' (some r)) (hl : lo ≤ r) (hr : r < hi) (hne : r ≠ g) (hq : ∀ a, q = some a → a.block ≠ r) : OwnDk w' lo mid hi g cd q e cells d :=
  ⟨h.dry.kept hg (.inr (by simp [Value.ownBlock]; omega)), h.wet.kept hg (by
    cases q with
    | none => exact .inl rfl
    | some a => exact .inr (by simp [Value.ownBlock]; exact hq a rfl)), h.row.grown hg (by omega), h.ne, h.lt⟩
theorem OwnDk.below {w w' : World} {lo mid hi g cd : Nat} {q : Option Addr} {e : Nat} {cells : List Value} {d : Dk} (h : OwnDk w lo mid hi g cd q e cells d) (hb : Below w.heap.size w w') : OwnDk w' lo mid hi g cd q e cells d :=
  ⟨h.dry.below hb, h.wet.kept (row := none) ⟨hb.os, hb.tape, hb.output, hb.size, fun k hk _ => hb.block k hk⟩ (by cases hv : (Value.slice q d.wet.length e).ownBlock <;> simp), h.row.below hb, h.ne, h.lt⟩
theorem OwnDk.put {w : World} {lo mid hi g cd r : Nat} {e : Nat} {cells : List Value} {d : Dk} (h : OwnDk w lo mid hi g cd (some ⟨r, 0, none⟩) e cells d) (hlm : lo ≤ mid) (k : Nat) (hk : k < d.wet.length) (q3 : Option Addr) (c3 : Nat)
    (hc : d.wet[k].b.length ≤ c3) (hm : c3 ≤ maxLen) (rd : Rd .u8 w q3 d.wet[k].b) (ok : ∀ a, q3 = some a → hi ≤ a.block) :
    OwnDk (w.setCell ⟨r, k * 2 + 1, none⟩ (.slice q3 d.wet[k].b.length c3)) lo mid hi g cd (some ⟨r, 0, none⟩) e (cells.set (k * 2 + 1) (.slice q3 d.wet[k].b.length c3)) d := by
  have hr := h.ne _ rfl
  simp only at hr
  obtain ⟨r', e', _, _, _, hmid, _⟩ := ownsRow_head h.wet (by omega)
  cases e'
  have hg := grownBy_set w ⟨r, k * 2 + 1, none⟩ (.slice q3 d.wet[k].b.length c3)
  refine ⟨h.dry.kept hg (.inr (by simp [Value.ownBlock]; omega)), ownsRow_set h.wet _ _ (by omega), fun i x hx => ?_, h.ne, h.lt⟩
  obtain ⟨x1, q, c, x2, x3, x4, x5, x6⟩ := h.row i x hx
  have hl : k * 2 + 1 < cells.length := by rw [h.wet.1]; omega
  refine ⟨by rw [List.getElem?_set_ne (by omega)]; exact x1, ?_⟩
  by_cases e : i = k
  · subst e
    rw [List.getElem?_eq_getElem hk] at hx
    obtain rfl := Option.some.inj hx
    exact ⟨q3, c3, List.getElem?_set_self hl, hc, hm, fun _ a ha => .inr (ok a ha), rd.grown hg fun _ a ha => by have := ok a ha; show a.block ≠ r; omega⟩
  · exact ⟨q, c, by rw [List.getElem?_set_ne (by omega)]; exact x2, x3, x4, x5, x6.grown hg fun h0 a ha => by have := x5 h0 a ha; show a.block ≠ r; omega⟩
theorem ret_disk {fn : Func} {R : Ending → World → Prop} {a : Act} {w : World} {p : Tmp} {T : Nat} {v0 v1 v2 v3 : Value} (h : fn.results = #[.cell p 44]) (hp : a.tmps.getD p undef = .pointer (some ⟨T, 0, none⟩)) (hb : BoxOf w T [v0, v1, v2, v3]) (hd : a.defers = []) (hR : R (.returned (.agg #[v0, v1, v2, v3])) w) : bodyPost Try.prog fn R .ret a w := by
  obtain ⟨t, hb⟩ := hb
  exact bodyPost_ret_by (results_cell_row h _ _ T t _ (0, 0) _ hp hb Try.underlying44 rfl (by kernel_rfl)) hd hR
theorem ret_disk_tmp {fn : Func} {R : Ending → World → Prop} {a : Act} {w : World} {p u : Tmp} {T : Nat} {v0 v1 v2 v3 : Value} (h : fn.results = #[.cell p 44, .tmp u]) (hp : a.tmps.getD p undef = .pointer (some ⟨T, 0, none⟩)) (hb : BoxOf w T [v0, v1, v2, v3]) (hd : a.defers = []) (hR : R (.returned (.tuple #[.agg #[v0, v1, v2, v3], a.tmps.getD u undef])) w) : bodyPost Try.prog fn R .ret a w := by
  obtain ⟨t, hb⟩ := hb
  refine bodyPost_ret_by ?_ hd hR
  have hp' : a.tmps[p]?.getD undef = .pointer (some ⟨T, 0, none⟩) := by simpa using hp
  simp [results, h, hp', asAddr, run_loadVar_row w T t 44 _ (0, 0) _ hb Try.underlying44 rfl (by kernel_rfl)]
attribute [local go_sem ↓] Go.wp_at_zero Go.wp_at_succ
set_option maxRecDepth 100000 in
set_option maxHeartbeats 4000000 in
theorem own_any (p : Option Addr) (c : Nat) (q : Option Addr) (e : Nat) (d : Dk) (w0 w : World) (h : DkAt w0 p c q e d) (hb0 : Below w0.heap.size w0 w) (hbig : DkBig d) (h0 : 0 < d.dry.length) :
    Calls Try.prog 77 #[dkV p c q e d] w fun e' w' => ∃ hi g cd q' c' cells, e' = .returned (dkV (some ⟨g, 0, none⟩) cd q' c' d) ∧ OwnDk w' w0.heap.size w.heap.size hi g cd q' c' cells d ∧ Below w.heap.size w w' := by
  have hW : ∀ O1 O2, Below w.heap.size w (((w.alloc O1).alloc O2).drew) := fun O1 O2 => ((below_new w O1).alloc (by simp) O2).drew
  have HW := Lib.hid hW
  have H := Lib.hid (h.below hb0)
  have HR := Lib.hid h.rw
  have HB := Lib.hid hbig
  have H0 := Lib.hid h0
  have HB0 := Lib.hid hb0
  clear h hW hbig h0 hb0
  go_enter Try.func77, Try.ntmps77
  go_wp2_with fail
  go_region_with (first
    | (go_at_call 73; go_loud (refine (clone_rd p c d.dry _ (H.out.rd.below (HW.out _ _)) HB.out.dry).mono ?_; rintro e' w1 ⟨v1, rfl, ho1, hb1⟩; have bx1 : BoxOf w1 w.heap.size [.slice p d.dry.length c, .slice q d.wet.length e, .int .i64 d.fuse, .bool d.dead] := BoxOf.below (box_two w [.slice p d.dry.length c, .slice q d.wet.length e, .int .i64 d.fuse, .bool d.dead] [.slice none 0 0, .slice none 0 0, .int .i64 0, .bool false] _ _).1 hb1; have bx2 : BoxOf w1 (w.heap.size + 1) [.slice none 0 0, .slice none 0 0, .int .i64 0, .bool false] := BoxOf.below (box_two w [.slice p d.dry.length c, .slice q d.wet.length e, .int .i64 d.fuse, .bool d.dead] [.slice none 0 0, .slice none 0 0, .int .i64 0, .bool false] _ _).2 hb1; have hbw1 := bel2 (HW.out _ _) hb1; clear hb1; have k0 := (bx1.get 0 _ rfl).1; have k1 := (bx1.get 1 _ rfl).1; replace ho1 := ho1.base (b' := w.heap.size + 2) (by simp; try omega); obtain ⟨g, cd, rfl, hg1, hg2⟩ := ho1.form H0.out))
    | (go_at_call 94; go_loud (refine (wclone_rd q e d.wet w0 _ HR.out (HB0.out.trans (hbw1.mono HB0.out.size)) HB.out.wet).mono ?_; rintro e' w2 ⟨v2, cells, rfl, ho2, hrow, hb2⟩; replace bx1 := bx1.below hb2; replace bx2 := bx2.below hb2; replace ho1 := ho1.below hb2; have hbw2 := bel2 hbw1 hb2; have hs1 := hbw1.size; have hs2 := hb2.size; clear hb2 hbw1 k0 k1; have k0 := (bx1.get 0 _ rfl).1; have k1 := (bx1.get 1 _ rfl).1; have f0 := (bx1.get 0 _ rfl).2; have f1 := (bx1.get 1 _ rfl).2; obtain ⟨q2, c2', rfl, hq⟩ := ownsRow_form ho2)))
  all_goals
    obtain ⟨W, hW⟩ : ∃ W, W = (w2.setCell ⟨w.heap.size, 0, none⟩ (.slice (some ⟨g, 0, none⟩) d.dry.length cd)).setCell ⟨w.heap.size, 1, none⟩ (.slice q2 d.wet.length c2') := ⟨_, rfl⟩
    rw [← hW]
    have b1 : BoxOf W w.heap.size [.slice (some ⟨g, 0, none⟩) d.dry.length cd, .slice q2 d.wet.length c2', .int .i64 d.fuse, .bool d.dead] := by
      rw [hW]; exact (bx1.set 0 _).set 1 _
    have b2 : BoxOf W (w.heap.size + 1) [.slice none 0 0, .slice none 0 0, .int .i64 0, .bool false] := by
      rw [hW]; exact (bx2.setOther _ _ (by simp)).setOther _ _ (by simp)
    have od : OwnDk w2 w0.heap.size w.heap.size w2.heap.size g cd q2 c2' cells d := ⟨ho1.base (by omega), ownsRow_base ho2 (by omega), hrow.imp (fun b hb => .inl hb), fun a ha => ⟨by have := (hq a ha).1; omega, (hq a ha).2⟩, by omega⟩
    have oW : OwnDk W w0.heap.size w.heap.size w2.heap.size g cd q2 c2' cells d := by
      rw [hW]
      exact (od.grown (grownBy_set _ _ _) (HB0.out.size) (by show w.heap.size < _; omega) (by show w.heap.size ≠ _; omega) (fun a ha => by have := (hq a ha).1; simp; omega)).grown (grownBy_set _ _ _) (HB0.out.size) (by show w.heap.size < _; omega) (by show w.heap.size ≠ _; omega) (fun a ha => by have := (hq a ha).1; simp; omega)
    have hbW : Below w.heap.size w W := by rw [hW]; exact (hbw2.setCell (Nat.le_refl _) _).setCell (Nat.le_refl _) _
    have hsW : w2.heap.size ≤ W.heap.size := by rw [hW]; simp
    have hq2 : ∀ a, q2 = some a → w.heap.size + 2 ≤ a.block := fun a ha => by have := (hq a ha).1; omega
    clear hW od bx1 bx2 hrow ho1 ho2 k0 k1 f0 f1 hbw2 hq
    obtain ⟨hi, hhi⟩ : ∃ hi, hi = w2.heap.size := ⟨_, rfl⟩
    rw [← hhi] at oW hsW
    have hlo := HB0.out.size
    have c0 := (b1.get 0 _ rfl).1
    have c1 := (b1.get 1 _ rfl).1
    have hn47 := HB.out.wet
    have hgT : w.heap.size + 2 ≤ g := hg1
    have hghi : g < hi := by omega
    clear hg1 hg2 hs1 hs2 hhi
    go_wp2_with fail
    go_loopw [16] (fun i wr => ∃ (k : Nat) (cells : List Value), k ≤ d.wet.length ∧ i = .int .i64 k ∧ OwnDk wr w0.heap.size w.heap.size hi g cd q2 c2' cells d ∧ BoxOf wr w.heap.size [.slice (some ⟨g, 0, none⟩) d.dry.length cd, .slice q2 d.wet.length c2', .int .i64 d.fuse, .bool d.dead] ∧ BoxOf wr (w.heap.size + 1) [.slice none 0 0, .slice none 0 0, .int .i64 0, .bool false] ∧ Below w.heap.size w wr ∧ hi ≤ wr.heap.size) (fun i _ => d.wet.length - (intOf i).toNat)
    case atStart => exact ⟨0, cells, Nat.zero_le _, rfl, oW, b1, b2, hbW, hsW⟩
    case round =>
      clear oW b1 b2 hbW hsW c0 c1
      obtain ⟨k, cells, hk, rfl, oW, b1, b2, hbW, hsW⟩ := hrel
      by_cases hlt : k < d.wet.length
      · obtain ⟨h, rfl, _, hc1, hc2, hmid, hcells⟩ := ownsRow_head oW.wet (by omega)
        obtain ⟨x1, qx, cx, x2, x3, x4, x5, x6⟩ := oW.row k _ (List.getElem?_eq_getElem hlt)
        obtain ⟨y1, z1⟩ := hcells _ _ x1
        obtain ⟨y2, z2⟩ := hcells _ _ x2
        have c1 := (b1.get 1 _ rfl).1
        have hT := hq2 _ rfl
        simp only at hT
        have hT1 : ¬ w.heap.size = h := by omega
        have hh := World.block_lt_of_cell? wr _ y1
        have hT2 : ¬ wr.heap.size = h := by simp at hh; omega
        have hT3 : ¬ h = w.heap.size := by omega
        have hT4 : ¬ h = wr.heap.size := by simp at hh; omega
        have hkk : k * 2 + 1 < d.wet.length * 2 := by omega
        have hEach := HB.out.each _ (List.getElem_mem hlt)
        have hD : ∀ O, Below wr.heap.size wr ((wr.alloc O).drew) := fun O => (below_new wr O).drew
        have HDD := Lib.hid hD
        have HX6 := Lib.hid x6
        have HO := Lib.hid oW
        have HY := Lib.hid y2
        have HZ := Lib.hid z2
        clear hD x1 x2 x3 x4 x5 x6 oW hcells z1 z2
        go_wp2_with fail
        go_region_held3 (fun w' => w'.cell? ⟨w.heap.size, 1, none⟩ = some (.slice (some ⟨h, 0, none⟩) d.wet.length c2') ∧ w'.cell? ⟨wr.heap.size, 1, none⟩ = some (.slice qx d.wet[k].b.length cx)) (go_keep) (first
          | (go_at_call 73; go_loud (refine (clone_rd qx cx d.wet[k].b _ (HX6.out.below (HDD.out _)) hEach).mono ?_; rintro e' w3 ⟨v3, rfl, ho3, hb3⟩; have bel := bel2 (HDD.out _) hb3; have j0 : w3.cell? ⟨w.heap.size, 1, none⟩ = some (.slice (some ⟨h, 0, none⟩) d.wet.length c2') := cell_below bel c1; have j1 : w3.cell? ⟨wr.heap.size, 1, none⟩ = some (.slice qx d.wet[k].b.length cx) := cell_below hb3 (by simp); have j2 := cell_below bel HY.out; have j3 : w3.frozen? ⟨h, k * 2 + 1, none⟩ = false := (bel.frozen (World.block_lt_of_cell? wr _ HY.out)).trans HZ.out; obtain ⟨q3, c3, rfl, hq3⟩ := ownsRow_form ho3)))
        go_wp2_with fail
        all_goals
          go_roundw
          case rel =>
            have o3 := HO.out.below bel
            have f3 := ho3.fr.rd
            obtain ⟨q3', c3', e3, e31, e32, e33⟩ := f3
            cases e3
            have hs3 : hi ≤ w3.heap.size := by have := bel.size; omega
            exact ⟨k + 1, _, hlt, by go_num, o3.put hlo k hlt q3 c3 e31 e32 e33 (fun a ha => by have := (hq3 a ha).1; simp at this; omega), (b1.below bel).setOther _ _ hT1, (b2.below bel).setOther _ _ (by show w.heap.size + 1 ≠ h; omega), (bel2 hbW bel).setCell (by show w.heap.size ≤ h; omega) _, by simp; omega⟩
          case measure => simp [intOf]; omega
      · obtain rfl : k = d.wet.length := by omega
        have c0 := (b1.get 0 _ rfl).1
        have c1 := (b1.get 1 _ rfl).1
        have c2 := (b1.get 2 _ rfl).1
        have c3 := (b1.get 3 _ rfl).1
        have j0 := (b2.get 0 _ rfl).1
        have j1 := (b2.get 1 _ rfl).1
        have j2 := (b2.get 2 _ rfl).1
        have j3 := (b2.get 3 _ rfl).1
        have f0 := (b2.get 0 _ rfl).2
        have f1 := (b2.get 1 _ rfl).2
        have f2 := (b2.get 2 _ rfl).2
        have f3 := (b2.get 3 _ rfl).2
        have HO := Lib.hid oW
        have HB1 := Lib.hid hbW
        have HB2 := Lib.hid b2
        clear oW b1 b2 hbW
        go_wp2
        have oW := HO.out
        have bb := (((HB2.out.set 0 (.slice (some ⟨g, 0, none⟩) d.dry.length cd) ).set 1 (.slice q2 d.wet.length c2')).set 2 (.int .i64 d.fuse)).set 3 (.bool d.dead)
        have hx : ∀ a, q2 = some a → a.block ≠ w.heap.size + 1 := fun a ha => by have := hq2 a ha; omega
        have oX := (((oW.grown (grownBy_set wr ⟨w.heap.size + 1, 0, none⟩ (.slice (some ⟨g, 0, none⟩) d.dry.length cd)) (by show _ ≤ w.heap.size + 1; omega) (by show w.heap.size + 1 < _; omega) (by show w.heap.size + 1 ≠ _; omega) hx).grown (grownBy_set _ ⟨w.heap.size + 1, 1, none⟩ (.slice q2 d.wet.length c2')) (by show _ ≤ w.heap.size + 1; omega) (by show w.heap.size + 1 < _; omega) (by show w.heap.size + 1 ≠ _; omega) hx).grown (grownBy_set _ ⟨w.heap.size + 1, 2, none⟩ (.int .i64 d.fuse)) (by show _ ≤ w.heap.size + 1; omega) (by show w.heap.size + 1 < _; omega) (by show w.heap.size + 1 ≠ _; omega) hx).grown (grownBy_set _ ⟨w.heap.size + 1, 3, none⟩ (.bool d.dead)) (by show _ ≤ w.heap.size + 1; omega) (by show w.heap.size + 1 < _; omega) (by show w.heap.size + 1 ≠ _; omega) hx
        have bX := (((HB1.out.setCell (p := ⟨w.heap.size + 1, 0, none⟩) (by show w.heap.size ≤ w.heap.size + 1; omega) (.slice (some ⟨g, 0, none⟩) d.dry.length cd)).setCell (p := ⟨w.heap.size + 1, 1, none⟩) (by show w.heap.size ≤ w.heap.size + 1; omega) (.slice q2 d.wet.length c2')).setCell (p := ⟨w.heap.size + 1, 2, none⟩) (by show w.heap.size ≤ w.heap.size + 1; omega) (.int .i64 d.fuse)).setCell (p := ⟨w.heap.size + 1, 3, none⟩) (by show w.heap.size ≤ w.heap.size + 1; omega) (.bool d.dead)
        generalize ((((wr.setCell ⟨w.heap.size + 1, 0, none⟩ (.slice (some ⟨g, 0, none⟩) d.dry.length cd)).setCell ⟨w.heap.size + 1, 1, none⟩ (.slice q2 d.wet.length c2')).setCell ⟨w.heap.size + 1, 2, none⟩ (.int .i64 d.fuse)).setCell ⟨w.heap.size + 1, 3, none⟩ (.bool d.dead)) = WX at *
        refine ret_disk rfl rfl bb rfl ?_
        exact ⟨hi, g, cd, q2, c2', cells, rfl, oX, bX⟩
end Go.Proofs.Ytnmgiiaejpaeeaa
