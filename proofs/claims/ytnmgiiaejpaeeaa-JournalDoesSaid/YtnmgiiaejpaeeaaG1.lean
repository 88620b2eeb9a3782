/- Contracts and plain laws that the laws' proofs use, laid together (part 1). -/
import Derived.Test.YtnmgiiaejpaeeaaB
import Derived.Test.YtnmgiiaejpaeeaaProg
import Derived.Test.YtnmgiiaejpaeeaaApp
import Derived.Deep.MidRow
import Derived.Deep.RegionHeld3
import Derived.BigQuiet
import Derived.Deep.QuietTactic
import Derived.IntWalk
import Derived.Laws.AppendOwnNone
import Derived.Test.YtnmgiiaejpaeeaaDk1
import Derived.Laws.ResultCell
import Derived.Test.YtnmgiiaejpaeeaaDk9
import Derived.Test.YtnmgiiaejpaeeaaDk8
import Derived.Test.YtnmgiiaejpaeeaaDk6
/- Data in memory told by layouts, and the state of a walk: what the call itself holds, and what it knows of memory that stays. -/
namespace Go.Proofs.Ytnmgiiaejpaeeaa
set_option linter.unusedVariables false
set_option linter.unusedSimpArgs false
open Go.RowKit

/-- What is known of memory. -/
abbrev Mem := Addr → Option Value
def Mem.Le (m m' : Mem) : Prop := ∀ a v, m a = some v → m' a = some v
theorem Mem.Le.refl (m : Mem) : m.Le m := fun _ _ h => h
theorem Mem.Le.trans {a b c : Mem} (h : a.Le b) (k : b.Le c) : a.Le c := fun x v hx => k x v (h x v hx)
/-- What is known lies in the world. -/
def Mem.In (m : Mem) (w : World) : Prop := ∀ a v, m a = some v → w.cell? a = some v
def World.mem (w : World) : Mem := fun a => w.cell? a
theorem World.mem_in (w : World) : (World.mem w).In w := fun _ _ h => h

/-- How a thing lies in cells. -/
structure Lay (α : Type) where
  (n : Nat) (bytes : Nat)
  rd : Mem → List Value → α → Prop
  len : ∀ {m cs x}, rd m cs x → cs.length = n
  one : ∀ {m cs x}, rd m cs x → ∀ v ∈ cs, v.oneCell' = true
  mono : ∀ {m m' cs x}, m.Le m' → rd m cs x → rd m' cs x
def InK (k : IntKind) (x : Int) : Prop := k.min ≤ x ∧ x ≤ k.max
def kBytes : IntKind → Nat
  | .i8 | .u8 => 1 | .i16 | .u16 => 2 | .i32 | .u32 => 4 | _ => 8
def Lay.int (k : IntKind) : Lay Int where
  n := 1
  bytes := kBytes k
  rd _ cs x := cs = [.int k x] ∧ InK k x
  len h := by rw [h.1]; rfl
  one h := by rw [h.1]; simp [Value.oneCell']
  mono _ h := h
def Lay.bool : Lay Bool where
  n := 1
  bytes := 1
  rd _ cs x := cs = [.bool x]
  len h := by rw [h]; rfl
  one h := by rw [h]; simp [Value.oneCell']
  mono _ h := h
/-- The things xs lie at p, row by row. -/
def Row {α : Type} (L : Lay α) (m : Mem) (p : Option Addr) (xs : List α) : Prop :=
  0 < xs.length → ∃ b o, p = some ⟨b, o, none⟩ ∧ ∀ i x, xs[i]? = some x → ∃ cs, L.rd m cs x ∧ ∀ j v, cs[j]? = some v → m ⟨b, o + i * L.n + j, none⟩ = some v
theorem Row.nil {α : Type} (L : Lay α) (m : Mem) (p : Option Addr) : Row L m p [] := fun h => absurd h (Nat.lt_irrefl 0)
theorem Row.mono {α : Type} {L : Lay α} {m m' : Mem} {p : Option Addr} {xs : List α} (hm : m.Le m') (h : Row L m p xs) : Row L m' p xs := fun h0 => by
  obtain ⟨b, o, e, hc⟩ := h h0
  exact ⟨b, o, e, fun i x hx => let ⟨cs, h1, h2⟩ := hc i x hx; ⟨cs, L.mono hm h1, fun j v hj => hm _ _ (h2 j v hj)⟩⟩
def Lay.list {α : Type} (L : Lay α) : Lay (List α) where
  n := 1
  bytes := 24
  rd m cs xs := ∃ p c, cs = [.slice p xs.length c] ∧ xs.length ≤ c ∧ c ≤ maxLen ∧ xs.length * L.bytes ≤ 140737488355328 ∧ Row L m p xs
  len h := by obtain ⟨p, c, rfl, _⟩ := h; rfl
  one h := by obtain ⟨p, c, rfl, _⟩ := h; simp [Value.oneCell']
  mono hm h := by obtain ⟨p, c, e, h1, h2, h3, h4⟩ := h; exact ⟨p, c, e, h1, h2, h3, h4.mono hm⟩
def Lay.prod {α β : Type} (L : Lay α) (M : Lay β) : Lay (α × β) where
  n := L.n + M.n
  bytes := L.bytes + M.bytes
  rd m cs x := ∃ c1 c2, cs = c1 ++ c2 ∧ L.rd m c1 x.1 ∧ M.rd m c2 x.2
  len h := by obtain ⟨c1, c2, rfl, h1, h2⟩ := h; rw [List.length_append, L.len h1, M.len h2]
  one h := by
    obtain ⟨c1, c2, rfl, h1, h2⟩ := h
    intro v hv
    rcases List.mem_append.1 hv with h | h
    · exact L.one h1 v h
    · exact M.one h2 v h
  mono hm h := by obtain ⟨c1, c2, e, h1, h2⟩ := h; exact ⟨c1, c2, e, L.mono hm h1, M.mono hm h2⟩
def Lay.by {α β : Type} (L : Lay α) (b : Nat) (f : β → α) : Lay β where
  n := L.n
  bytes := b
  rd m cs x := L.rd m cs (f x)
  len h := L.len h
  one h := L.one h
  mono hm h := L.mono hm h

abbrev u8L : Lay Int := Lay.int .u8
abbrev i64L : Lay Int := Lay.int .i64
abbrev bytesL : Lay (List Int) := (Lay.int .u8).list

theorem Lay.nil_rd {α : Type} (L : Lay α) (m : Mem) : L.list.rd m [.slice none 0 0] [] := ⟨none, 0, rfl, Nat.le_refl _, by simp [maxLen], by simp, Row.nil _ _ _⟩
/-- Integers: as they were told before. -/
theorem Row.rdInt {k : IntKind} {m : Mem} {w : World} {p : Option Addr} {xs : List Int} (h : Row (Lay.int k) m p xs) (hm : m.In w) : Rd k w p xs := fun h0 => by
  obtain ⟨b, o, e, hc⟩ := h h0
  refine ⟨b, o, e, fun i hi => ?_⟩
  obtain ⟨cs, ⟨h1, _⟩, h2⟩ := hc i _ (List.getElem?_eq_getElem hi)
  subst h1
  have := hm _ _ (h2 0 _ rfl)
  simpa [Lay.int, List.getD, List.getElem?_eq_getElem hi] using this
theorem rowInt {k : IntKind} {m : Mem} {p : Option Addr} {xs : List Int} (hk : ∀ x ∈ xs, InK k x)
    (h : 0 < xs.length → ∃ b o, p = some ⟨b, o, none⟩ ∧ ∀ i, i < xs.length → m ⟨b, o + i, none⟩ = some (.int k (xs.getD i 0))) : Row (Lay.int k) m p xs := fun h0 => by
  obtain ⟨b, o, e, hc⟩ := h h0
  refine ⟨b, o, e, fun i x hx => ⟨[.int k x], ⟨rfl, hk x (List.mem_of_getElem? hx)⟩, fun j v hj => ?_⟩⟩
  have hl := (List.getElem?_eq_some_iff.1 hx).1
  cases j with
  | zero =>
    have := hc i hl
    simp [List.getD, hx] at this hj
    simpa [Lay.int, hj] using this
  | succ j => simp at hj
theorem inK_isB {xs : List Int} (h : ∀ x ∈ xs, InK .u8 x) : IsB xs := fun x hx => by
  have := h x hx
  simp [InK, IntKind.min, IntKind.max, IntKind.signed, IntKind.bits] at this
  omega
theorem isB_inK {xs : List Int} (h : IsB xs) : ∀ x ∈ xs, InK .u8 x := fun x hx => by
  have := h x hx
  simp [InK, IntKind.min, IntKind.max, IntKind.signed, IntKind.bits]
  omega
theorem Row.inK {k : IntKind} {m : Mem} {p : Option Addr} {xs : List Int} (h : Row (Lay.int k) m p xs) : ∀ x ∈ xs, InK k x := fun x hx => by
  obtain ⟨i, hi, rfl⟩ := List.getElem_of_mem hx
  obtain ⟨b, o, e, hc⟩ := h (by omega)
  obtain ⟨cs, ⟨_, h1⟩, _⟩ := hc i _ (List.getElem?_eq_getElem hi)
  exact h1
/-- An element of a row: its cells. -/
theorem Row.get {α : Type} {L : Lay α} {m : Mem} {p : Option Addr} {xs : List α} (h : Row L m p xs) (i : Nat) (hi : i < xs.length) :
    ∃ b o cs, p = some ⟨b, o, none⟩ ∧ L.rd m cs xs[i] ∧ ∀ j v, cs[j]? = some v → m ⟨b, o + i * L.n + j, none⟩ = some v := by
  obtain ⟨b, o, e, hc⟩ := h (by omega)
  obtain ⟨cs, h1, h2⟩ := hc i _ (List.getElem?_eq_getElem hi)
  exact ⟨b, o, cs, e, h1, h2⟩
theorem Row.part {α : Type} {L : Lay α} {m : Mem} {b o : Nat} {xs : List α} (h : Row L m (some ⟨b, o, none⟩) xs) (i j : Nat) (hj : j ≤ xs.length) : Row L m (some ⟨b, o + i * L.n, none⟩) ((xs.take j).drop i) := fun h0 => by
  have hl : 0 < xs.length := by simp at h0; omega
  obtain ⟨b', o', e, hc⟩ := h hl
  cases e
  refine ⟨b, o + i * L.n, rfl, fun k x hx => ?_⟩
  rw [List.getElem?_drop, List.getElem?_take] at hx
  split at hx
  · obtain ⟨cs, h1, h2⟩ := hc _ _ hx
    refine ⟨cs, h1, fun j v hv => ?_⟩
    have := h2 j v hv
    rw [Nat.add_mul] at this
    rw [← this]
    congr 2
    omega
  · cases hx

/-! ### The state of a walk -/
/-- What a call holds itself: a block that is known whole, or a row that is appended to. -/
inductive Ent where
  | box (b : Nat) (cs : List Value)
  | row (e : TypeId) (size : Nat) (v : Value) (n : Nat) (xs : List Value)
def BoxIn (w : World) (T : Nat) (vs : List Value) : Prop := ∃ t, w.heap[T]? = some (.cells vs.toArray t (0, 0))
def Ent.blk : Ent → Option Nat
  | .box b _ => some b
  | .row _ _ v _ _ => v.ownBlock
def Ent.ok (w : World) : Ent → Prop
  | .box b cs => BoxIn w b cs
  | .row e size v n xs => w.ownsRow 0 e size v n xs
theorem Ent.ok.lt {w : World} {x : Ent} (h : x.ok w) : ∀ b, x.blk = some b → b < w.heap.size := by
  intro b hb
  cases x with
  | box b' cs =>
    obtain ⟨t, ht⟩ := h
    cases hb
    exact (Array.getElem?_eq_some_iff.1 ht).1
  | row e size v n xs => exact (World.ownsRow.lt h b hb).2
theorem Ent.ok.grown {w w' : World} {x : Ent} {r : Option Nat} (h : x.ok w) (hg : w.grownBy w' r) (hn : x.blk = none ∨ x.blk ≠ r) : x.ok w' := by
  cases x with
  | box b cs =>
    obtain ⟨t, ht⟩ := h
    refine ⟨t, ?_⟩
    rw [hg.block b (Array.getElem?_eq_some_iff.1 ht).1 (by simpa [Ent.blk] using hn)]
    exact ht
  | row e size v n xs => exact World.ownsRow.kept h hg hn
/-- Blocks that were there are as they were, but for those of X. -/
structure Kept (X : List Nat) (w w' : World) : Prop where
  os : w'.os = w.os
  tape : w'.tape = w.tape
  output : w'.output = w.output
  size : w.heap.size ≤ w'.heap.size
  block : ∀ k, k < w.heap.size → k ∉ X → w'.heap[k]? = w.heap[k]?
theorem Kept.refl (X : List Nat) (w : World) : Kept X w w := ⟨rfl, rfl, rfl, Nat.le_refl _, fun _ _ _ => rfl⟩
theorem Kept.below {w w' : World} (h : Kept [] w w') : Below w.heap.size w w' := ⟨h.os, h.tape, h.output, h.size, fun k hk => h.block k hk (by simp)⟩
theorem Below.kept {w w' : World} (h : Below w.heap.size w w') (X : List Nat) : Kept X w w' := ⟨h.os, h.tape, h.output, h.size, fun k hk _ => h.block k hk⟩
theorem Kept.grown {X : List Nat} {w w' w'' : World} {r : Option Nat} (h : Kept X w w') (hg : w'.grownBy w'' r) (hr : ∀ b, r = some b → w.heap.size ≤ b ∨ b ∈ X) : Kept X w w'' :=
  ⟨hg.os.trans h.os, hg.tape.trans h.tape, hg.output.trans h.output, Nat.le_trans h.size hg.size, fun k hk hX =>
    (hg.block k (Nat.lt_of_lt_of_le hk h.size) (fun e => (hr k e.symm).elim (fun h => by omega) hX)).trans (h.block k hk hX)⟩

/-- The state of a walk that began in w0, where m0 was known: now in w the call holds es (those of X it was lent), and m is known. -/
structure St (X : List Nat) (w0 : World) (m0 : Mem) (w : World) (es : List Ent) (m : Mem) : Prop where
  kept : Kept X w0 w
  has : ∀ x ∈ es, x.ok w ∧ ∀ b, x.blk = some b → w0.heap.size ≤ b ∨ b ∈ X
  apart : es.Pairwise fun x y => ∀ b, x.blk = some b → y.blk ≠ some b
  know : ∀ a v, m a = some v → w.cell? a = some v ∧ ∀ x ∈ es, x.blk ≠ some a.block
  le : m0.Le m
  new : ∀ a v, m a = some v → m0 a = some v ∨ w0.heap.size ≤ a.block ∨ a.block ∈ X
theorem St.start {w : World} {m : Mem} (h : m.In w) : St [] w m w [] m :=
  ⟨Kept.refl _ _, by simp, .nil, fun a v hv => ⟨h a v hv, by simp⟩, Mem.Le.refl _, fun _ _ h => .inl h⟩
theorem St.startX {w : World} {m : Mem} (es : List Ent) (h : ∀ a v, m a = some v → w.cell? a = some v ∧ ∀ x ∈ es, x.blk ≠ some a.block) (hes : ∀ x ∈ es, x.ok w) (ha : es.Pairwise fun x y => ∀ b, x.blk = some b → y.blk ≠ some b) (X : List Nat)
    (hX : ∀ x ∈ es, ∀ b, x.blk = some b → b ∈ X) : St X w m w es m :=
  ⟨Kept.refl _ _, fun x hx => ⟨hes x hx, fun b hb => .inr (hX x hx b hb)⟩, ha, h, Mem.Le.refl _, fun _ _ h => .inl h⟩
theorem St.inw {X : List Nat} {w0 w : World} {m0 m : Mem} {es : List Ent} (h : St X w0 m0 w es m) : m.In w := fun a v hv => (h.know a v hv).1
theorem St.below {w0 w : World} {m0 m : Mem} {es : List Ent} (h : St [] w0 m0 w es m) : Below w0.heap.size w0 w := h.kept.below
theorem St.box {X : List Nat} {w0 w : World} {m0 m : Mem} {es : List Ent} (h : St X w0 m0 w es m) (i : Nat) {b : Nat} {cs : List Value} (hi : es[i]? = some (.box b cs)) : BoxIn w b cs := (h.has _ (List.mem_of_getElem? hi)).1
theorem St.row {X : List Nat} {w0 w : World} {m0 m : Mem} {es : List Ent} (h : St X w0 m0 w es m) (i : Nat) {e : TypeId} {size n : Nat} {v : Value} {xs : List Value} (hi : es[i]? = some (.row e size v n xs)) : w.ownsRow 0 e size v n xs := (h.has _ (List.mem_of_getElem? hi)).1
theorem BoxIn.get {w : World} {T : Nat} {vs : List Value} (h : BoxIn w T vs) (i : Nat) (v : Value) (hv : vs[i]? = some v) : w.cell? ⟨T, i, none⟩ = some v ∧ w.frozen? ⟨T, i, none⟩ = false := by
  obtain ⟨t, h⟩ := h
  exact ⟨by rw [cell_of_row _ _ _ _ _ _ h]; simpa using hv, frozen_of_row _ _ _ _ _ h⟩
/-- One thing turns (a block of its own, or none), new blocks may be laid. -/
theorem St.set {X : List Nat} {w0 w w' : World} {m0 m : Mem} {es : List Ent} (h : St X w0 m0 w es m) (i : Nat) (x x' : Ent) (hi : es[i]? = some x) (hg : w.grownBy w' x.blk) (hok : x'.ok w') (hb : ∀ b, x'.blk = some b → x.blk = some b ∨ w.heap.size ≤ b) :
    St X w0 m0 w' (es.set i x') m := by
  have hx := h.has x (List.mem_of_getElem? hi)
  have hil := (List.getElem?_eq_some_iff.1 hi).1
  have hoth : ∀ j y, j ≠ i → es[j]? = some y → ∀ b, y.blk = some b → x.blk ≠ some b := fun j y hj hy b hyb => by
    have hjl := (List.getElem?_eq_some_iff.1 hy).1
    obtain ⟨_, rfl⟩ := List.getElem?_eq_some_iff.1 hy
    obtain ⟨_, rfl⟩ := List.getElem?_eq_some_iff.1 hi
    rcases Nat.lt_or_gt_of_ne hj with hlt | hgt
    · exact (List.pairwise_iff_getElem.1 h.apart) j i hjl hil hlt b hyb
    · exact fun hc => (List.pairwise_iff_getElem.1 h.apart) i j hil hjl hgt b hc hyb
  have hsz : ∀ y ∈ es, ∀ b, y.blk = some b → b < w.heap.size := fun y hy b hb => (h.has y hy).1.lt b hb
  refine ⟨h.kept.grown hg fun b hb => hx.2 b hb, fun y hy => ?_, ?_, fun a v hv => ?_, h.le, h.new⟩
  · obtain ⟨j, hj⟩ := List.getElem?_of_mem hy
    rw [List.getElem?_set] at hj
    split at hj
    · cases hj
      exact ⟨hok, fun b hb' => (hb b hb').elim (hx.2 b) (fun h2 => .inl (Nat.le_trans h.kept.size h2))⟩
    · rename_i hne
      have hm := List.mem_of_getElem? hj
      refine ⟨(h.has y hm).1.grown hg ?_, (h.has y hm).2⟩
      cases hyb : y.blk with
      | none => exact .inl rfl
      | some b => exact .inr fun e => hoth j y (fun e => hne e.symm) hj b hyb e.symm
  · rw [List.pairwise_iff_getElem]
    intro j k hj hk hjk b hb1 hb2
    simp only [List.length_set] at hj hk
    rw [List.getElem_set] at hb1 hb2
    by_cases e1 : i = j
    · rw [if_pos e1] at hb1
      rw [if_neg (by omega)] at hb2
      rcases hb b hb1 with h2 | h2
      · exact hoth k es[k] (by omega) (List.getElem?_eq_getElem hk) b hb2 h2
      · exact absurd (hsz _ (List.getElem_mem hk) b hb2) (by omega)
    · rw [if_neg e1] at hb1
      by_cases e2 : i = k
      · rw [if_pos e2] at hb2
        rcases hb b hb2 with h2 | h2
        · exact hoth j es[j] (by omega) (List.getElem?_eq_getElem hj) b hb1 h2
        · exact absurd (hsz _ (List.getElem_mem hj) b hb1) (by omega)
      · rw [if_neg e2] at hb2
        exact (List.pairwise_iff_getElem.1 h.apart) j k hj hk hjk b hb1 hb2
  · obtain ⟨h1, h2⟩ := h.know a v hv
    have hlt := World.block_lt_of_cell? w a h1
    refine ⟨(World.cell?_of_block (hg.block _ hlt fun e => h2 x (List.mem_of_getElem? hi) e.symm)).trans h1, fun y hy => ?_⟩
    obtain ⟨j, hj⟩ := List.getElem?_of_mem hy
    rw [List.getElem?_set] at hj
    split at hj
    · cases hj
      intro e
      rcases hb _ e with h3 | h3
      · exact h2 x (List.mem_of_getElem? hi) h3
      · omega
    · exact h2 y (List.mem_of_getElem? hj)
/-- A new thing of its own. -/
theorem St.add {X : List Nat} {w0 w w' : World} {m0 m : Mem} {es : List Ent} (h : St X w0 m0 w es m) (x : Ent) (hg : w.grownBy w' none) (hok : x.ok w') (hb : ∀ b, x.blk = some b → w.heap.size ≤ b) : St X w0 m0 w' (x :: es) m := by
  have hsz : ∀ y ∈ es, ∀ b, y.blk = some b → b < w.heap.size := fun y hy b hb => (h.has y hy).1.lt b hb
  refine ⟨h.kept.grown hg (by simp), fun y hy => ?_, ?_, fun a v hv => ?_, h.le, h.new⟩
  · rcases List.mem_cons.1 hy with rfl | hy
    · exact ⟨hok, fun b hb' => .inl (Nat.le_trans h.kept.size (hb b hb'))⟩
    · exact ⟨(h.has y hy).1.grown hg (by cases y.blk <;> simp), (h.has y hy).2⟩
  · refine List.pairwise_cons.2 ⟨fun y hy b h1 h2 => ?_, h.apart⟩
    have := hb b h1
    have := hsz y hy b h2
    omega
  · obtain ⟨h1, h2⟩ := h.know a v hv
    have hlt := World.block_lt_of_cell? w a h1
    refine ⟨(World.cell?_of_block (hg.block _ hlt (by simp))).trans h1, fun y hy => ?_⟩
    rcases List.mem_cons.1 hy with rfl | hy
    · exact fun e => by have := hb _ e; omega
    · exact h2 y hy
/-- New blocks that nobody looks at. -/
theorem St.grow {X : List Nat} {w0 w w' : World} {m0 m : Mem} {es : List Ent} (h : St X w0 m0 w es m) (hg : w.grownBy w' none) : St X w0 m0 w' es m := by
  refine ⟨h.kept.grown hg (by simp), fun y hy => ⟨(h.has y hy).1.grown hg (by cases y.blk <;> simp), (h.has y hy).2⟩, h.apart, fun a v hv => ?_, h.le, h.new⟩
  obtain ⟨h1, h2⟩ := h.know a v hv
  exact ⟨(World.cell?_of_block (hg.block _ (World.block_lt_of_cell? w a h1) (by simp))).trans h1, h2⟩
theorem grownBy_drew (w : World) : w.grownBy w.drew none := ⟨rfl, rfl, rfl, Nat.le_refl _, fun _ _ _ => rfl⟩
theorem grownBy_of_below {w w' : World} (h : Below w.heap.size w w') : w.grownBy w' none := ⟨h.os, h.tape, h.output, h.size, fun k hk _ => h.block k hk⟩
theorem St.drew {X : List Nat} {w0 w : World} {m0 m : Mem} {es : List Ent} (h : St X w0 m0 w es m) : St X w0 m0 w.drew es m := h.grow (grownBy_drew w)
/-- A call that leaves all that was there as it was. -/
theorem St.call {X : List Nat} {w0 w w' : World} {m0 m m' : Mem} {es : List Ent} (h : St X w0 m0 w es m) (k : St [] w m w' [] m') : St X w0 m0 w' es m' := by
  have h1 := h.grow (grownBy_of_below k.below)
  refine ⟨h1.kept, h1.has, h1.apart, fun a v hv => ⟨(k.know a v hv).1, fun x hx e => ?_⟩, h.le.trans k.le, fun a v hv => ?_⟩
  · rcases k.new a v hv with h2 | h2 | h2
    · exact (h.know a v h2).2 x hx e
    · have := (h.has x hx).1.lt _ e
      omega
    · simp at h2
  · rcases k.new a v hv with h2 | h2 | h2
    · exact h.new a v h2
    · exact .inr (.inl (Nat.le_trans h.kept.size h2))
    · simp at h2
/-- A call that hands back things of its own. -/
theorem St.callOwn {X : List Nat} {w0 w w' : World} {m0 m m' : Mem} {es fs : List Ent} (h : St X w0 m0 w es m) (k : St [] w m w' fs m') : St X w0 m0 w' (fs ++ es) m' := by
  have hdrop : St [] w m w' [] m' := ⟨k.kept, by simp, .nil, fun a v hv => ⟨(k.know a v hv).1, by simp⟩, k.le, k.new⟩
  have h1 := h.call hdrop
  refine ⟨h1.kept, fun x hx => ?_, ?_, fun a v hv => ⟨(k.know a v hv).1, fun x hx => ?_⟩, h1.le, h1.new⟩
  · rcases List.mem_append.1 hx with hx | hx
    · exact ⟨(k.has x hx).1, fun b hb => .inl (by have := (k.has x hx).2 b hb; simp at this; exact Nat.le_trans h.kept.size this)⟩
    · exact h1.has x hx
  · refine List.pairwise_append.2 ⟨k.apart, h.apart, fun x hx y hy b hb1 hb2 => ?_⟩
    have h2 := (k.has x hx).2 b hb1
    have h3 := (h.has y hy).1.lt b hb2
    simp at h2
    omega
  · rcases List.mem_append.1 hx with hx | hx
    · exact (k.know a v hv).2 x hx
    · exact (h1.know a v hv).2 x hx
theorem St.drop {X : List Nat} {w0 w : World} {m0 m : Mem} {es : List Ent} (h : St X w0 m0 w es m) (fs : List Ent) (hs : fs.Sublist es) : St X w0 m0 w fs m :=
  ⟨h.kept, fun x hx => h.has x (hs.subset hx), h.apart.sublist hs, fun a v hv => ⟨(h.know a v hv).1, fun x hx => (h.know a v hv).2 x (hs.subset hx)⟩, h.le, h.new⟩
theorem St.done {X : List Nat} {w0 w : World} {m0 m : Mem} {es : List Ent} (h : St X w0 m0 w es m) : St X w0 m0 w [] m := h.drop [] (List.nil_sublist _)
/-- A thing of its own is let be: what lies in it is known from now on. -/
theorem St.settle {X : List Nat} {w0 w : World} {m0 m : Mem} {es : List Ent} (h : St X w0 m0 w es m) (i : Nat) (x : Ent) (hi : es[i]? = some x) :
    ∃ m', St X w0 m0 w (es.eraseIdx i) m' ∧ m.Le m' ∧ (∀ a v, x.blk = some a.block → w.cell? a = some v → m' a = some v) := by
  refine ⟨fun a => if x.blk = some a.block then w.cell? a else m a, ?_, fun a v hv => ?_, fun a v hx hv => by simp [hx, hv]⟩
  · have hd := h.drop _ (List.eraseIdx_sublist es i)
    refine ⟨hd.kept, hd.has, hd.apart, fun a v hv => ?_, fun a v hv => ?_, fun a v hv => ?_⟩
    · split at hv
      · rename_i hb
        refine ⟨hv, fun y hy e => ?_⟩
        obtain ⟨j, hj⟩ := List.getElem?_of_mem hy
        rw [List.getElem?_eraseIdx] at hj
        obtain ⟨hil, rfl⟩ := List.getElem?_eq_some_iff.1 hi
        split at hj
        · rename_i hlt
          obtain ⟨hjl, rfl⟩ := List.getElem?_eq_some_iff.1 hj
          exact (List.pairwise_iff_getElem.1 h.apart) j i hjl hil hlt _ e hb
        · rename_i hge
          obtain ⟨hjl, rfl⟩ := List.getElem?_eq_some_iff.1 hj
          exact (List.pairwise_iff_getElem.1 h.apart) i (j + 1) hil hjl (by omega) _ hb e
      · exact hd.know a v hv
    · have h1 := h.le a v hv
      have h2 := (h.know a v h1).2 x (List.mem_of_getElem? hi)
      simp [h2, h1]
    · split at hv
      · rename_i hb
        exact .inr ((h.has x (List.mem_of_getElem? hi)).2 _ hb)
      · exact h.new a v hv
  · have h2 := (h.know a v hv).2 x (List.mem_of_getElem? hi)
    simp [h2, hv]

/-- What a contract says: it returns a value of which Q holds, of what is known behind it. -/
def Ret (w : World) (m : Mem) (Q : Value → Mem → Prop) : Ending → World → Prop := fun e w' => ∃ v m', e = .returned v ∧ Q v m' ∧ St [] w m w' [] m'
end Go.Proofs.Ytnmgiiaejpaeeaa
/- The rules of a walk over its state: boxes, loads, stores, appends, copies. -/
namespace Go.Proofs.Ytnmgiiaejpaeeaa
set_option linter.unusedVariables false
set_option linter.unusedSimpArgs false
open Go.RowKit
variable {P : Program} {X : List Nat} {w0 w : World} {m0 m : Mem} {es : List Ent} {o : Oper} {a : Act} {K : Act → World → Prop} {Q : Exit → Act → World → Prop}

theorem grownBy_new (w : World) (o : Obj) : w.grownBy (w.alloc o) none := World.grownBy_alloc w o none
theorem box_new (w : World) (cs : List Value) (t : TypeId) : BoxIn (w.alloc (.cells cs.toArray t)) w.heap.size cs := ⟨t, heap_alloc_new w _⟩
theorem St.box_new (hS : St X w0 m0 w es m) (cs : List Value) (t : TypeId) : St X w0 m0 (w.alloc (.cells cs.toArray t)) (.box w.heap.size cs :: es) m :=
  hS.add (.box w.heap.size cs) (grownBy_new _ _) (Go.Proofs.Ytnmgiiaejpaeeaa.box_new w cs t) (fun b hb => by cases hb; exact Nat.le_refl _)
theorem op_box (hS : St X w0 m0 w es m) (ty : TypeId) (y : Operand) (ho : o.op = .box ty y) (cs : List Value) (hc : (a.eval y).cells = cs.toArray)
    (h : ∀ w' b, St X w0 m0 w' (.box b cs :: es) m → K (a.put o.dst (.pointer (some ⟨b, 0, none⟩))) w') : o.wp P a w K Q := by
  have hrun : (Instr.box ty (a.eval y)).run P w = .ok (.pointer (some ⟨w.heap.size, 0, none⟩)) (w.alloc (.cells cs.toArray ty)) := by
    simp [Instr.box, newVar, newRow, hc, newObj, Sem.run_bind, Sem.run, ← World.alloc_eq]
  unfold Oper.wp execOp
  simp only [ho, Sem.run_bind, hrun, Result.andThen_ok, Sem.run_pure]
  exact h _ _ (hS.box_new cs ty)
theorem op_alloc (hS : St X w0 m0 w es m) (ty : TypeId) (ho : o.op = .alloc ty) (z : Value) (hz : (P.info? ty).bind (·.zero) = some z) (cs : List Value) (hc : z.cells = cs.toArray)
    (h : ∀ w' b, St X w0 m0 w' (.box b cs :: es) m → K (a.put o.dst (.pointer (some ⟨b, 0, none⟩))) w') : o.wp P a w K Q := by
  have hrun : (Instr.alloc ty true (.tuple #[])).run P w = .ok (.pointer (some ⟨w.heap.size, 0, none⟩)) (w.alloc (.cells cs.toArray ty)) := by
    cases hq : P.info? ty with
    | none => simp [hq] at hz
    | some i =>
      simp [hq] at hz
      simp [Instr.alloc, zeroValue, typeInfo, hq, hz, newVar, newRow, hc, newObj, Sem.run_bind, Sem.run, ← World.alloc_eq]
  unfold Oper.wp execOp
  simp only [ho, Sem.run_bind, hrun, Result.andThen_ok, Sem.run_pure]
  exact h _ _ (hS.box_new cs ty)
theorem run_loadVar_one {w : World} {b off : Nat} {ty : TypeId} {v : Value} (hv : w.cell? ⟨b, off, none⟩ = some v) {d : TypeDesc} (hu : P.underlying ty = some d) (hd : d.isRow = false) :
    (loadVar ty ⟨b, off, none⟩).run P w = .ok v w := by
  have hagg : (isAgg ty).run P w = .ok false w := by
    unfold isAgg
    rw [Sem.run_bind, run_underlying hu w]
    cases d <;> simp_all
  simp [loadVar, Sem.run_bind, hagg, load, Sem.run, hv]
theorem op_load (ty : TypeId) (x : Operand) (ho : o.op = .load ty x) (b off : Nat) (hx : a.eval x = .pointer (some ⟨b, off, none⟩)) (v : Value) (hv : w.cell? ⟨b, off, none⟩ = some v)
    (d : TypeDesc) (hu : P.underlying ty = some d) (hd : d.isRow = false) (h : K (a.put o.dst v) w) : o.wp P a w K Q := by
  unfold Oper.wp execOp
  simp only [ho, hx, Instr.loadAt, Instr.sureAddr, Sem.run_bind, Sem.run_pure, Result.andThen_ok, run_loadVar_one hv hu hd]
  exact h
theorem op_load_box (hS : St X w0 m0 w es m) (ty : TypeId) (x : Operand) (ho : o.op = .load ty x) (b off : Nat) (hx : a.eval x = .pointer (some ⟨b, off, none⟩)) (i : Nat) (cs : List Value) (hi : es[i]? = some (.box b cs)) (v : Value) (hv : cs[off]? = some v)
    (d : TypeDesc) (hu : P.underlying ty = some d) (hd : d.isRow = false) (h : K (a.put o.dst v) w) : o.wp P a w K Q :=
  op_load ty x ho b off hx v ((hS.box i hi).get off v hv).1 d hu hd h
theorem op_load_mem (hS : St X w0 m0 w es m) (ty : TypeId) (x : Operand) (ho : o.op = .load ty x) (b off : Nat) (hx : a.eval x = .pointer (some ⟨b, off, none⟩)) (v : Value) (hv : m ⟨b, off, none⟩ = some v)
    (d : TypeDesc) (hu : P.underlying ty = some d) (hd : d.isRow = false) (h : K (a.put o.dst v) w) : o.wp P a w K Q :=
  op_load ty x ho b off hx v (hS.inw _ _ hv) d hu hd h
theorem op_loads_box (hS : St X w0 m0 w es m) (ty : TypeId) (x : Operand) (ho : o.op = .load ty x) (b off : Nat) (hx : a.eval x = .pointer (some ⟨b, off, none⟩)) (i : Nat) (cs : List Value) (hi : es[i]? = some (.box b cs)) (vs : List Value) (hv : (cs.drop off).take vs.length = vs)
    (d : TypeDesc) (hu : P.underlying ty = some d) (hd : d.isRow = true) (hn : (P.info? ty).map (·.size) = some vs.length) (h : K (a.put o.dst (.agg vs.toArray)) w) : o.wp P a w K Q :=
  wp_load_mid ty x ho b off hx vs d (fun j v hj => ((hS.box i hi).get _ v (by
    have hl := (List.getElem?_eq_some_iff.1 hj).1
    rw [← hv, List.getElem?_take_of_lt hl, List.getElem?_drop] at hj
    exact hj)).1) hu hd hn h
theorem op_loads_mem (hS : St X w0 m0 w es m) (ty : TypeId) (x : Operand) (ho : o.op = .load ty x) (b off : Nat) (hx : a.eval x = .pointer (some ⟨b, off, none⟩)) (vs : List Value) (hv : ∀ j v, vs[j]? = some v → m ⟨b, off + j, none⟩ = some v)
    (d : TypeDesc) (hu : P.underlying ty = some d) (hd : d.isRow = true) (hn : (P.info? ty).map (·.size) = some vs.length) (h : K (a.put o.dst (.agg vs.toArray)) w) : o.wp P a w K Q :=
  wp_load_mid ty x ho b off hx vs d (fun j v hj => hS.inw _ _ (hv j v hj)) hu hd hn h
theorem setCell_box {w : World} {b : Nat} {cs : List Value} (h : BoxIn w b cs) (i : Nat) (v : Value) : BoxIn (w.setCell ⟨b, i, none⟩ v) b (cs.set i v) := by
  obtain ⟨t, h⟩ := h
  exact ⟨t, by rw [heap_setCell_same w b i _ _ v h]; simp⟩
theorem grownBy_setCell (w : World) (a : Addr) (v : Value) : w.grownBy (w.setCell a v) (some a.block) :=
  ⟨rfl, rfl, rfl, by simp [World.setCell], fun k hk hn => Below.heap_setCell _ _ _ _ (fun e => hn (by rw [e]))⟩
theorem run_storeVar_one {w : World} {b off : Nat} {ty : TypeId} {v u : Value} (hu : w.cell? ⟨b, off, none⟩ = some u) (hf : w.frozen? ⟨b, off, none⟩ = false) (h1 : v.oneCell' = true) (hn : (P.info? ty).map (·.size) = some 1) :
    (storeVar ty ⟨b, off, none⟩ v).run P w = .ok () (w.setCell ⟨b, off, none⟩ v) := by
  have hc : v.cells = #[v] := by cases v <;> simp_all [Value.cells, Value.oneCell']
  have hadd : (⟨b, off, none⟩ : Addr).add 0 = ⟨b, off, none⟩ := by unfold Addr.add; simp
  cases hq : P.info? ty with
  | none => simp [hq] at hn
  | some i =>
    simp [hq] at hn
    have hst : ∀ k : Sem Unit, (Sem.store .plain ⟨b, off, none⟩ v k).run P w = k.run P (w.setCell ⟨b, off, none⟩ v) := fun k => by
      cases v <;> first | (simp [Value.oneCell'] at h1; done) | simp [Sem.run, hu, hf]
    simp [storeVar, sizeOf, typeInfo, hq, hn, hc, storeCells, hadd, store, Sem.run_bind, hst]
theorem op_store_box (hS : St X w0 m0 w es m) (ty : TypeId) (x y : Operand) (ho : o.op = .store ty x y) (b off : Nat) (hx : a.eval x = .pointer (some ⟨b, off, none⟩)) (v : Value) (hy : a.eval y = v) (h1 : v.oneCell' = true) (i : Nat) (cs : List Value) (hi : es[i]? = some (.box b cs)) (hl : off < cs.length)
    (hn : (P.info? ty).map (·.size) = some 1) (h : ∀ w', St X w0 m0 w' (es.set i (.box b (cs.set off v))) m → K (a.put o.dst undef) w') : o.wp P a w K Q := by
  have hb := hS.box i hi
  have hg := hb.get off _ (List.getElem?_eq_getElem hl)
  unfold Oper.wp execOp
  simp only [ho, hx, hy, Instr.storeAt, Instr.sureAddr, Sem.run_bind, Sem.run_pure, Result.andThen_ok, run_storeVar_one hg.1 hg.2 h1 hn]
  exact h _ (hS.set i _ _ hi (grownBy_setCell _ _ _) (setCell_box hb off v) (fun _ h => .inl h))
theorem setCells_box {b : Nat} {t : TypeId} : ∀ (vs : List Value) (w : World) (off : Nat) (cs : List Value), w.heap[b]? = some (.cells cs.toArray t (0, 0)) → off + vs.length ≤ cs.length →
    (w.setCells b off vs).heap[b]? = some (.cells (cs.take off ++ vs ++ cs.drop (off + vs.length)).toArray t (0, 0)) ∧ w.grownBy (w.setCells b off vs) (some b)
  | [], w, off, cs, h, hl => by
    refine ⟨?_, ⟨rfl, rfl, rfl, Nat.le_refl _, fun _ _ _ => rfl⟩⟩
    simpa [World.setCells] using h
  | v :: vs, w, off, cs, h, hl => by
    simp only [List.length_cons] at hl
    have h1 : (w.setCell ⟨b, off, none⟩ v).heap[b]? = some (.cells (cs.set off v).toArray t (0, 0)) := by rw [heap_setCell_same w b off _ _ v h]; simp
    obtain ⟨h2, h3⟩ := setCells_box vs (w.setCell ⟨b, off, none⟩ v) (off + 1) (cs.set off v) h1 (by simp; omega)
    have hg := grownBy_setCell w ⟨b, off, none⟩ v
    refine ⟨?_, ⟨h3.os.trans hg.os, h3.tape.trans hg.tape, h3.output.trans hg.output, Nat.le_trans hg.size h3.size, fun k hk hn => (h3.block k (Nat.lt_of_lt_of_le hk hg.size) hn).trans (hg.block k hk hn)⟩⟩
    rw [World.setCells, h2]
    congr 3
    rw [List.length_cons, show off + (vs.length + 1) = off + 1 + vs.length by omega, List.drop_set_of_lt (by omega)]
    rw [List.take_succ_eq_append_getElem (by simp; omega), List.take_set_of_le (Nat.le_refl _)]
    simp
theorem op_stores_box (hS : St X w0 m0 w es m) (ty : TypeId) (x y : Operand) (ho : o.op = .store ty x y) (b off : Nat) (hx : a.eval x = .pointer (some ⟨b, off, none⟩)) (vs : List Value) (hy : a.eval y = .agg vs.toArray) (h1 : ∀ v ∈ vs, v.oneCell' = true) (i : Nat) (cs : List Value) (hi : es[i]? = some (.box b cs)) (hl : off + vs.length ≤ cs.length)
    (hn : (P.info? ty).map (·.size) = some vs.length) (h : ∀ w', St X w0 m0 w' (es.set i (.box b (cs.take off ++ vs ++ cs.drop (off + vs.length)))) m → K (a.put o.dst undef) w') : o.wp P a w K Q := by
  have hb := hS.box i hi
  obtain ⟨t, ht⟩ := hS.box i hi
  obtain ⟨h2, h3⟩ := setCells_box vs w off cs ht hl
  refine wp_store_mid ty x y ho b off vs.toArray hx hy (fun j hj => ?_) (by simpa using hn) (all_oneCell_toArray h1) ?_
  · simp at hj
    have := hb.get (off + j) _ (List.getElem?_eq_getElem (by omega))
    exact ⟨by simp [this.1], this.2⟩
  · exact h _ (hS.set i _ _ hi h3 ⟨t, h2⟩ (fun _ h => .inl h))
/-- A slice type, its element's type, its cells, its octets, its zero value. -/
structure Elem (P : Program) (t e : TypeId) (size bytes : Nat) (z : Value) : Prop where
  under : P.underlying t = some (.slice e)
  info : (P.info? e).map (fun i => (i.zero, i.size, i.bytes)) = some (some z, size, bytes)
  zsize : z.cells.size = size
  pos : 0 < size
theorem Elem.at {t e : TypeId} {size bytes : Nat} {z : Value} (h : Elem P t e size bytes z) : ∃ i, P.info? e = some i ∧ i.zero = some z ∧ i.size = size ∧ i.bytes = bytes := by
  have := h.info
  cases hq : P.info? e with
  | none => simp [hq] at this
  | some i => simp [hq] at this; exact ⟨i, rfl, this⟩
theorem op_append (hS : St X w0 m0 w es m) {t e : TypeId} {size bytes : Nat} {z : Value} (hE : Elem P t e size bytes z) (s x : Operand) (ho : o.op = .call { callee := .builtin .append, args := #[s, x], argTypes := #[t, t] })
    (i : Nat) (v : Value) (n : Nat) (xs : List Value) (hi : es[i]? = some (.row e size v n xs)) (hs : a.eval s = v) (p : Option Addr) (k c : Nat) (hx : a.eval x = .slice p k c) (news : List Value) (hl : news.length = k * size)
    (hp : p = none → k = 0 ∧ c = 0) (hnews : ∀ ad, p = some ad → ∀ j u, news[j]? = some u → w.cell? (ad.add j) = some u) (h1 : ∀ u ∈ news, u.oneCell' = true) (h63 : n + k ≤ maxLen) (hbytes : (n + k) * bytes ≤ 140737488355328)
    (h : ∀ w' v', St X w0 m0 w' (es.set i (.row e size v' (n + k) (xs ++ news))) m → K (a.put o.dst v') w') : o.wp P a w K Q := by
  obtain ⟨ti, hi1, hi2, hi3, hi4⟩ := hE.at
  have hown := hS.row i hi
  cases p with
  | none =>
    obtain ⟨rfl, rfl⟩ := hp rfl
    have hn0 : news = [] := List.eq_nil_of_length_eq_zero (by omega)
    subst hn0
    have hrun := run_append_owned_none (P := P) (w := w) 0 t o.type e ti size hE.under hi1 v n xs hown
    have h' := h w v (by
      have := hS.set i _ (.row e size v (n + 0) (xs ++ [])) hi (w' := w) ⟨rfl, rfl, rfl, Nat.le_refl _, fun _ _ _ => rfl⟩ (by simpa [Ent.ok] using hown) (fun _ h => .inl h)
      exact this)
    unfold Oper.wp
    simp [execOp, ho, resolve, invoke, builtin, hs, hx, hrun, Result.andThen]
    exact h'
  | some ad =>
    obtain ⟨v', w', hrun, ho', hg, hiff⟩ := run_append_own (P := P) w 0 t o.type e ti z size bytes hE.under hi1 hi2 hi3 hi4 hE.zsize hE.pos v n xs hown ad k c news hl (hnews ad rfl) h1 h63 hbytes (Nat.zero_le _)
    have hb : ∀ b, v'.ownBlock = some b → v.ownBlock = some b ∨ w.heap.size ≤ b := by
      subst hi3 hi4
      rcases hown.2 with ⟨rfl, rfl⟩ | ⟨g, cap, cur, rfl, hbg, hgg, hnc, hcm, hcs, htake⟩
      · obtain ⟨v2, w2, hrun2, ho2, _⟩ := run_append_own (P := P) w w.heap.size t o.type e ti z ti.size ti.bytes hE.under hi1 hi2 rfl rfl hE.zsize hE.pos (.slice none 0 0) 0 xs ⟨hown.1, .inl ⟨rfl, rfl⟩⟩ ad k c news hl (hnews ad rfl) h1 h63 hbytes (Nat.le_refl _)
        rw [hrun] at hrun2
        cases hrun2
        exact fun b hb => .inr (ho2.lt b hb).1
      · by_cases hroom : n + k ≤ cap
        · have hfit : n * ti.size + news.length ≤ cur.size := by rw [hl, hcs, ← Nat.add_mul]; exact Nat.mul_le_mul_right _ hroom
          have hr := run_append_room (P := P) w t o.type e ti hE.under hi1 g n cap cur hgg ad k c news hl (hnews ad rfl) h1 hroom hfit
          rw [hrun] at hr
          cases hr
          exact fun b hb => .inl hb
        · have holds : ∀ j u, xs[j]? = some u → w.cell? ((⟨g, 0, none⟩ : Addr).add j) = some u := hown.cells (g := g) rfl
          have hr := run_append_grow (P := P) w t o.type e ti z hE.under hi1 hi2 ⟨g, 0, none⟩ n cap xs hown.1 holds ad k c news hl (hnews ad rfl) (by omega) (by have := h63; simp only [maxLen] at this; omega) (growslice_fits (by omega) hbytes)
          rw [hrun] at hr
          cases hr
          exact fun b hb => .inr (by simp [Value.ownBlock] at hb; omega)
    unfold Oper.wp execOp
    simp only [ho, resolve, invoke, builtin, Sem.run_bind, Sem.run_pure, Result.andThen_ok, List.map_toArray, List.map_cons, List.map_nil, hs, hx, hrun]
    exact h w' v' (hS.set i _ _ hi hg ho' hb)
end Go.Proofs.Ytnmgiiaejpaeeaa
/- The rules of a walk, as its arms take them: what is looked up, and what turns, is found by its shape. -/
namespace Go.Proofs.Ytnmgiiaejpaeeaa
set_option linter.unusedVariables false
set_option linter.unusedSimpArgs false
open Go.RowKit
variable {ops : Array Oper} {P : Program} {X : List Nat} {w0 w : World} {m0 m : Mem} {es : List Ent} {o : Oper} {a : Act} {K : Act → World → Prop} {Q : Exit → Act → World → Prop}

/-- n cells from off on. -/
inductive SubL : List Value → Nat → Nat → List Value → Prop
  | stop {l : List Value} : SubL l 0 0 []
  | take {l : List Value} {x : Value} {n : Nat} {vs : List Value} : SubL l 0 n vs → SubL (x :: l) 0 (n + 1) (x :: vs)
  | skip {l : List Value} {x : Value} {k n : Nat} {vs : List Value} : SubL l k n vs → SubL (x :: l) (k + 1) n vs
theorem SubL.eq {l : List Value} {k n : Nat} {vs : List Value} (h : SubL l k n vs) : vs.length = n ∧ (l.drop k).take vs.length = vs := by
  induction h with
  | stop => simp
  | take h ih => simp at ih ⊢; exact ⟨ih.1, ih.2⟩
  | skip h ih => simpa using ih
inductive SetsL : List Value → Nat → List Value → List Value → Prop
  | stop {l : List Value} : SetsL l 0 [] l
  | put {l l' : List Value} {x v : Value} {vs : List Value} : SetsL l 0 vs l' → SetsL (x :: l) 0 (v :: vs) (v :: l')
  | skip {l l' : List Value} {x : Value} {k : Nat} {vs : List Value} : SetsL l k vs l' → SetsL (x :: l) (k + 1) vs (x :: l')
theorem SetsL.eq {l l' : List Value} {k : Nat} {vs : List Value} (h : SetsL l k vs l') : k + vs.length ≤ l.length ∧ l' = l.take k ++ vs ++ l.drop (k + vs.length) := by
  induction h with
  | stop => simp
  | put h ih => obtain ⟨h1, h2⟩ := ih; simp at h1 h2 ⊢; exact ⟨h1, h2⟩
  | skip h ih =>
    obtain ⟨h1, h2⟩ := ih
    simp only [List.length_cons, List.take_succ_cons, List.cons_append]
    refine ⟨by omega, ?_⟩
    rw [show ∀ a b : Nat, a + 1 + b = (a + b) + 1 from fun a b => by omega, List.drop_succ_cons, h2]
/-- A block of es, its cells, and es with other cells there. -/
inductive UpdB : List Ent → Nat → List Value → List Value → List Ent → Prop
  | head {l : List Ent} {b : Nat} {cs cs' : List Value} : UpdB (.box b cs :: l) b cs cs' (.box b cs' :: l)
  | tail {l l' : List Ent} {b : Nat} {cs cs' : List Value} {x : Ent} : UpdB l b cs cs' l' → UpdB (x :: l) b cs cs' (x :: l')
theorem UpdB.at {es es' : List Ent} {b : Nat} {cs cs' : List Value} (h : UpdB es b cs cs' es') : ∃ i : Nat, es[i]? = some (.box b cs) ∧ es' = es.set i (.box b cs') := by
  induction h with
  | head => exact ⟨0, rfl, rfl⟩
  | tail h ih => obtain ⟨i, h1, h2⟩ := ih; exact ⟨i + 1, h1, by rw [h2]; rfl⟩
/-- A row of es, and es with another one there. -/
inductive RowAt : List Ent → TypeId → Nat → Value → Nat → List Value → (Value → Nat → List Value → List Ent) → Prop
  | head {l : List Ent} {e : TypeId} {size n : Nat} {v : Value} {xs : List Value} : RowAt (.row e size v n xs :: l) e size v n xs (fun v' n' xs' => .row e size v' n' xs' :: l)
  | tail {l : List Ent} {e : TypeId} {size n : Nat} {v : Value} {xs : List Value} {x : Ent} {f : Value → Nat → List Value → List Ent} : RowAt l e size v n xs f → RowAt (x :: l) e size v n xs (fun v' n' xs' => x :: f v' n' xs')
theorem RowAt.at {es : List Ent} {e : TypeId} {size n : Nat} {v : Value} {xs : List Value} {f : Value → Nat → List Value → List Ent} (h : RowAt es e size v n xs f) : ∃ i : Nat, es[i]? = some (.row e size v n xs) ∧ ∀ v' n' xs', f v' n' xs' = es.set i (.row e size v' n' xs') := by
  induction h with
  | head => exact ⟨0, rfl, fun _ _ _ => rfl⟩
  | tail h ih => obtain ⟨i, h1, h2⟩ := ih; exact ⟨i + 1, h1, fun v' n' xs' => by simp only [h2]; rfl⟩
/-- Where a cell is found: in a block of es, or in what is known. -/
inductive Find (es : List Ent) (m : Mem) (b off : Nat) (v : Value) : Prop
  | box {cs : List Value} : Ent.box b cs ∈ es → cs[off]? = some v → Find es m b off v
  | mem : m ⟨b, off, none⟩ = some v → Find es m b off v
  | row {e : TypeId} {size n c : Nat} {xs : List Value} : Ent.row e size (.slice (some ⟨b, 0, none⟩) n c) n xs ∈ es → xs[off]? = some v → Find es m b off v
theorem St.rowCell (hS : St X w0 m0 w es m) {e : TypeId} {size n c b : Nat} {xs : List Value} (h : Ent.row e size (.slice (some ⟨b, 0, none⟩) n c) n xs ∈ es) (j : Nat) (v : Value) (hj : xs[j]? = some v) : w.cell? ⟨b, j, none⟩ = some v := by
  obtain ⟨i, hi⟩ := List.getElem?_of_mem h
  have := (hS.row i hi).cells (g := b) rfl j v hj
  rw [Addr.add_lit, Nat.zero_add] at this
  exact this
theorem St.find (hS : St X w0 m0 w es m) {b off : Nat} {v : Value} (h : Find es m b off v) : w.cell? ⟨b, off, none⟩ = some v := by
  cases h with
  | box h1 h2 =>
    obtain ⟨i, hi⟩ := List.getElem?_of_mem h1
    exact ((hS.box i hi).get off v h2).1
  | mem h => exact hS.inw _ _ h
  | row h1 h2 => exact hS.rowCell h1 off v h2
inductive Finds (es : List Ent) (m : Mem) (b off n : Nat) (vs : List Value) : Prop
  | box {cs : List Value} : Ent.box b cs ∈ es → SubL cs off n vs → Finds es m b off n vs
  | mem : vs.length = n → (∀ j v, vs[j]? = some v → m ⟨b, off + j, none⟩ = some v) → Finds es m b off n vs
  | row {e : TypeId} {size k c : Nat} {xs : List Value} : Ent.row e size (.slice (some ⟨b, 0, none⟩) k c) k xs ∈ es → (∀ j v, vs[j]? = some v → xs[off + j]? = some v) → vs.length = n → Finds es m b off n vs
theorem Finds.mem2 {es : List Ent} {m : Mem} {b off n : Nat} {vs : List Value} (h2 : ∀ j v, vs[j]? = some v → m ⟨b, off + j, none⟩ = some v) (h1 : vs.length = n) : Finds es m b off n vs := .mem h1 h2
theorem St.finds (hS : St X w0 m0 w es m) {b off n : Nat} {vs : List Value} (h : Finds es m b off n vs) : vs.length = n ∧ w.rangeAt b off vs := by
  cases h with
  | box h1 h2 =>
    obtain ⟨i, hi⟩ := List.getElem?_of_mem h1
    refine ⟨h2.eq.1, fun j v hj => ((hS.box i hi).get _ v ?_).1⟩
    have hl := (List.getElem?_eq_some_iff.1 hj).1
    rw [← h2.eq.2, List.getElem?_take_of_lt hl, List.getElem?_drop] at hj
    exact hj
  | mem h1 h2 => exact ⟨h1, fun j v hj => hS.inw _ _ (h2 j v hj)⟩
  | row h1 h2 h3 => exact ⟨h3, fun j v hj => hS.rowCell h1 _ v (h2 j v hj)⟩
theorem step_guard (hw : Region.wanted o (yielded ops a.tmps) = true) (h : o.wp P a w K Q) : if Region.wanted o (yielded ops a.tmps) = true then o.wp P a w K Q else K (a.put o.dst undef) w := by rw [if_pos hw]; exact h
theorem step_of {E : Prop} (hg : o.guard = none) (h : o.wp P a w K Q) : if Region.wanted o (yielded ops a.tmps) = true then o.wp P a w K Q else E := by rw [if_pos (by simp [Region.wanted, hg])]; exact h
theorem a_load (hS : St X w0 m0 w es m) (ty : TypeId) (x : Operand) (ho : o.op = .load ty x) {d : TypeDesc} (hu : P.underlying ty = some d) (hd : d.isRow = false) {b off : Nat} (hx : a.eval x = .pointer (some ⟨b, off, none⟩)) {v : Value} (hv : Find es m b off v)
    (h : K (a.put o.dst v) w) : o.wp P a w K Q := op_load ty x ho b off hx v (hS.find hv) d hu hd h
theorem a_loads (hS : St X w0 m0 w es m) (ty : TypeId) (x : Operand) (ho : o.op = .load ty x) {d : TypeDesc} (hu : P.underlying ty = some d) (hd : d.isRow = true) (n : Nat) (hn : (P.info? ty).map (·.size) = some n) {b off : Nat} (hx : a.eval x = .pointer (some ⟨b, off, none⟩)) {vs : List Value} (hv : Finds es m b off n vs)
    (h : K (a.put o.dst (.agg vs.toArray)) w) : o.wp P a w K Q :=
  wp_load_mid ty x ho b off hx vs d (hS.finds hv).2 hu hd (by rw [(hS.finds hv).1]; exact hn) h
theorem a_store (hS : St X w0 m0 w es m) (ty : TypeId) (x y : Operand) (ho : o.op = .store ty x y) (hn : (P.info? ty).map (·.size) = some 1) {b off : Nat} (hx : a.eval x = .pointer (some ⟨b, off, none⟩)) {v : Value} (hy : a.eval y = v) (h1 : v.oneCell' = true) {cs cs' : List Value} {es' : List Ent}
    (hU : UpdB es b cs cs' es') (hs : SetsL cs off [v] cs') (h : ∀ w', St X w0 m0 w' es' m → K (a.put o.dst undef) w') : o.wp P a w K Q := by
  obtain ⟨i, hi, rfl⟩ := hU.at
  obtain ⟨h2, h3⟩ := hs.eq
  subst h3
  simp at h2
  refine op_store_box hS ty x y ho b off hx v hy h1 i cs hi (by omega) hn fun w' hw => h w' ?_
  have e : cs.set off v = cs.take off ++ [v] ++ cs.drop (off + [v].length) := by
    apply List.ext_getElem?
    intro j
    rw [List.getElem?_set, List.append_assoc, List.getElem?_append, List.length_take, Nat.min_eq_left (by omega)]
    by_cases hj : j < off
    · rw [if_neg (by omega), if_pos hj, List.getElem?_take_of_lt hj]
    · rw [if_neg hj]
      by_cases hj2 : off = j
      · subst hj2; simp [show off < cs.length by omega]
      · rw [if_neg hj2, List.getElem?_append_right (by simp; omega), List.getElem?_drop]
        congr 1
        simp; omega
  rw [← e]
  exact hw
theorem a_stores (hS : St X w0 m0 w es m) (ty : TypeId) (x y : Operand) (ho : o.op = .store ty x y) (n : Nat) (hn : (P.info? ty).map (·.size) = some n) {b off : Nat} (hx : a.eval x = .pointer (some ⟨b, off, none⟩)) {vs : List Value} (hy : a.eval y = .agg vs.toArray) (hl : vs.length = n) (h1 : ∀ v ∈ vs, v.oneCell' = true) {cs cs' : List Value} {es' : List Ent}
    (hU : UpdB es b cs cs' es') (hs : SetsL cs off vs cs') (h : ∀ w', St X w0 m0 w' es' m → K (a.put o.dst undef) w') : o.wp P a w K Q := by
  obtain ⟨i, hi, rfl⟩ := hU.at
  obtain ⟨h2, h3⟩ := hs.eq
  subst h3
  exact op_stores_box hS ty x y ho b off hx vs hy h1 i cs hi h2 (by rw [hl]; exact hn) fun w' hw => h w' hw
theorem a_append (hS : St X w0 m0 w es m) {t e : TypeId} {size bytes : Nat} {z : Value} (hE : Elem P t e size bytes z) (s x : Operand) (ho : o.op = .call { callee := .builtin .append, args := #[s, x], argTypes := #[t, t] })
    {v : Value} {n : Nat} {xs : List Value} {p : Option Addr} {k c : Nat} {news : List Value} {f : Value → Nat → List Value → List Ent} (hs : a.eval s = v) (hi : RowAt es e size v n xs f) (hx : a.eval x = .slice p k c) (hl : news.length = k * size)
    (hp : p = none → k = 0 ∧ c = 0) (hnews : ∀ ad, p = some ad → ∀ j u, news[j]? = some u → w.cell? (ad.add j) = some u) (h1 : ∀ u ∈ news, u.oneCell' = true) (h63 : n + k ≤ maxLen) (hbytes : (n + k) * bytes ≤ 140737488355328)
    (h : ∀ w' v', St X w0 m0 w' (f v' (n + k) (xs ++ news)) m → K (a.put o.dst v') w') : o.wp P a w K Q := by
  obtain ⟨i, hi1, hf⟩ := hi.at
  refine op_append hS hE s x ho i v n xs hi1 hs p k c hx news hl hp hnews h1 h63 hbytes fun w' v' hw => h w' v' ?_
  rw [hf]
  exact hw
/-- The same, onto nil: a row of its own begins. -/
theorem St.nilRow (hS : St X w0 m0 w es m) (e : TypeId) (size : Nat) : St X w0 m0 w (.row e size (.slice none 0 0) 0 [] :: es) m :=
  hS.add _ ⟨rfl, rfl, rfl, Nat.le_refl _, fun _ _ _ => rfl⟩ (World.ownsRow_nil w 0 e size) (fun b hb => by simp [Ent.blk, Value.ownBlock] at hb)
theorem a_append_nil (hS : St X w0 m0 w es m) {t e : TypeId} {size bytes : Nat} {z : Value} (hE : Elem P t e size bytes z) (s x : Operand) (ho : o.op = .call { callee := .builtin .append, args := #[s, x], argTypes := #[t, t] })
    {p : Option Addr} {k c : Nat} {news : List Value} (hs : a.eval s = .slice none 0 0) (hx : a.eval x = .slice p k c) (hl : news.length = k * size)
    (hp : p = none → k = 0 ∧ c = 0) (hnews : ∀ ad, p = some ad → ∀ j u, news[j]? = some u → w.cell? (ad.add j) = some u) (h1 : ∀ u ∈ news, u.oneCell' = true) (h63 : k ≤ maxLen) (hbytes : k * bytes ≤ 140737488355328)
    (h : ∀ w' v', St X w0 m0 w' (.row e size v' k news :: es) m → K (a.put o.dst v') w') : o.wp P a w K Q :=
  a_append (hS.nilRow e size) hE s x ho hs .head hx hl hp hnews h1 (by omega) (by rw [Nat.zero_add]; exact hbytes) fun w' v' hw => h w' v' (by simpa using hw)
section
variable {rest : List Oper} {dst : Option Tmp} {rt : TypeId} {pos : String} {af : Array Edge} {g : Nat × Bool}
theorem l_box {ty : TypeId} {y : Operand} (hS : St X w0 m0 w es m) {cs : List Value} {v : Value} (hy : a.eval y = v) (hc : v.cells = cs.toArray) (h : ∀ w' b, St X w0 m0 w' (.box b cs :: es) m → wpList P ops Q rest (a.put dst (.pointer (some ⟨b, 0, none⟩))) w') : wpList P ops Q (⟨dst, .box ty y, rt, pos, af, none⟩ :: rest) a w :=
  wpList_plain rfl fun K hK => op_box hS ty y rfl cs (by rw [hy]; exact hc) fun w' b hw => hK _ _ (h w' b hw)
theorem l_alloc {ty : TypeId} (hS : St X w0 m0 w es m) (z : Value) (cs : List Value) (hz : (P.info? ty).bind (·.zero) = some z) (hc : z.cells = cs.toArray) (h : ∀ w' b, St X w0 m0 w' (.box b cs :: es) m → wpList P ops Q rest (a.put dst (.pointer (some ⟨b, 0, none⟩))) w') : wpList P ops Q (⟨dst, .alloc ty, rt, pos, af, none⟩ :: rest) a w :=
  wpList_plain rfl fun K hK => op_alloc hS ty rfl z hz cs hc fun w' b hw => hK _ _ (h w' b hw)
theorem l_load {ty : TypeId} {x : Operand} (hS : St X w0 m0 w es m) {d : TypeDesc} (hu : P.underlying ty = some d) (hd : d.isRow = false) {b off : Nat} (hx : a.eval x = .pointer (some ⟨b, off, none⟩)) {v : Value} (hv : Find es m b off v)
    (h : wpList P ops Q rest (a.put dst v) w) : wpList P ops Q (⟨dst, .load ty x, rt, pos, af, none⟩ :: rest) a w := wpList_plain rfl fun K hK => a_load hS ty x rfl hu hd hx hv (hK _ _ h)
theorem g_load {ty : TypeId} {x : Operand} (hS : St X w0 m0 w es m) {d : TypeDesc} (hu : P.underlying ty = some d) (hd : d.isRow = false) (hw : Region.wanted ⟨dst, .load ty x, rt, pos, af, some g⟩ (yielded ops a.tmps) = true) {b off : Nat} (hx : a.eval x = .pointer (some ⟨b, off, none⟩)) {v : Value} (hv : Find es m b off v)
    (h : wpList P ops Q rest (a.put dst v) w) : wpList P ops Q (⟨dst, .load ty x, rt, pos, af, some g⟩ :: rest) a w := wpList_step fun K hK => step_guard hw (a_load hS ty x rfl hu hd hx hv (hK _ _ h))
theorem l_loads {ty : TypeId} {x : Operand} (hS : St X w0 m0 w es m) {n : Nat} (hn : ∃ d, P.underlying ty = some d ∧ d.isRow = true ∧ (P.info? ty).map (·.size) = some n) {b off : Nat} (hx : a.eval x = .pointer (some ⟨b, off, none⟩)) {vs : List Value} (hv : Finds es m b off n vs)
    (h : wpList P ops Q rest (a.put dst (.agg vs.toArray)) w) : wpList P ops Q (⟨dst, .load ty x, rt, pos, af, none⟩ :: rest) a w := by
  obtain ⟨d, hu, hd, hn⟩ := hn
  exact wpList_plain rfl fun K hK => a_loads hS ty x rfl hu hd n hn hx hv (hK _ _ h)
theorem g_loads {ty : TypeId} {x : Operand} (hS : St X w0 m0 w es m) {n : Nat} (hn : ∃ d, P.underlying ty = some d ∧ d.isRow = true ∧ (P.info? ty).map (·.size) = some n) (hw : Region.wanted ⟨dst, .load ty x, rt, pos, af, some g⟩ (yielded ops a.tmps) = true) {b off : Nat} (hx : a.eval x = .pointer (some ⟨b, off, none⟩)) {vs : List Value} (hv : Finds es m b off n vs)
    (h : wpList P ops Q rest (a.put dst (.agg vs.toArray)) w) : wpList P ops Q (⟨dst, .load ty x, rt, pos, af, some g⟩ :: rest) a w := by
  obtain ⟨d, hu, hd, hn⟩ := hn
  exact wpList_step fun K hK => step_guard hw (a_loads hS ty x rfl hu hd n hn hx hv (hK _ _ h))
theorem l_store {ty : TypeId} {x y : Operand} (hS : St X w0 m0 w es m) (hn : ∃ d, P.underlying ty = some d ∧ d.isRow = false ∧ (P.info? ty).map (·.size) = some 1) {b off : Nat} (hx : a.eval x = .pointer (some ⟨b, off, none⟩)) {v : Value} (hy : a.eval y = v) (h1 : v.oneCell' = true) {cs cs' : List Value} {es' : List Ent}
    (hM : Ent.box b cs ∈ es) (hs : SetsL cs off [v] cs') (hU : UpdB es b cs cs' es') (h : ∀ w', St X w0 m0 w' es' m → wpList P ops Q rest (a.put dst undef) w') : wpList P ops Q (⟨dst, .store ty x y, rt, pos, af, none⟩ :: rest) a w := by
  obtain ⟨d, hu, hd, hn⟩ := hn
  exact wpList_plain rfl fun K hK => a_store hS ty x y rfl hn hx hy h1 hU hs fun w' hw => hK _ _ (h w' hw)
theorem l_stores {ty : TypeId} {x y : Operand} (hS : St X w0 m0 w es m) {n : Nat} (hn : ∃ d, P.underlying ty = some d ∧ d.isRow = true ∧ (P.info? ty).map (·.size) = some n) {b off : Nat} (hx : a.eval x = .pointer (some ⟨b, off, none⟩)) {vs : List Value} (hy : a.eval y = .agg vs.toArray) (hl : vs.length = n) (h1 : ∀ v ∈ vs, v.oneCell' = true) {cs cs' : List Value} {es' : List Ent}
    (hM : Ent.box b cs ∈ es) (hs : SetsL cs off vs cs') (hU : UpdB es b cs cs' es') (h : ∀ w', St X w0 m0 w' es' m → wpList P ops Q rest (a.put dst undef) w') : wpList P ops Q (⟨dst, .store ty x y, rt, pos, af, none⟩ :: rest) a w := by
  obtain ⟨d, hu, hd, hn⟩ := hn
  exact wpList_plain rfl fun K hK => a_stores hS ty x y rfl n hn hx hy hl h1 hU hs fun w' hw => hK _ _ (h w' hw)
theorem s_box {E : Prop} {ty : TypeId} {y : Operand} (hS : St X w0 m0 w es m) {cs : List Value} {v : Value} (hy : a.eval y = v) (hc : v.cells = cs.toArray) (h : ∀ w' b, St X w0 m0 w' (.box b cs :: es) m → K (a.put dst (.pointer (some ⟨b, 0, none⟩))) w') : if Region.wanted ⟨dst, .box ty y, rt, pos, af, none⟩ (yielded ops a.tmps) = true then Oper.wp P ⟨dst, .box ty y, rt, pos, af, none⟩ a w K Q else E :=
  step_of rfl (op_box hS ty y rfl cs (by rw [hy]; exact hc) fun w' b hw => h w' b hw)
theorem s_alloc {E : Prop} {ty : TypeId} (hS : St X w0 m0 w es m) (z : Value) (cs : List Value) (hz : (P.info? ty).bind (·.zero) = some z) (hc : z.cells = cs.toArray) (h : ∀ w' b, St X w0 m0 w' (.box b cs :: es) m → K (a.put dst (.pointer (some ⟨b, 0, none⟩))) w') : if Region.wanted ⟨dst, .alloc ty, rt, pos, af, none⟩ (yielded ops a.tmps) = true then Oper.wp P ⟨dst, .alloc ty, rt, pos, af, none⟩ a w K Q else E :=
  step_of rfl (op_alloc hS ty rfl z hz cs hc fun w' b hw => h w' b hw)
theorem s_store {E : Prop} {ty : TypeId} {x y : Operand} (hS : St X w0 m0 w es m) (hn : ∃ d, P.underlying ty = some d ∧ d.isRow = false ∧ (P.info? ty).map (·.size) = some 1) {b off : Nat} (hx : a.eval x = .pointer (some ⟨b, off, none⟩)) {v : Value} (hy : a.eval y = v) (h1 : v.oneCell' = true) {cs cs' : List Value} {es' : List Ent}
    (hM : Ent.box b cs ∈ es) (hs : SetsL cs off [v] cs') (hU : UpdB es b cs cs' es') (h : ∀ w', St X w0 m0 w' es' m → K (a.put dst undef) w') : if Region.wanted ⟨dst, .store ty x y, rt, pos, af, none⟩ (yielded ops a.tmps) = true then Oper.wp P ⟨dst, .store ty x y, rt, pos, af, none⟩ a w K Q else E := by
  obtain ⟨d, hu, hd, hn⟩ := hn
  exact step_of rfl (a_store hS ty x y rfl hn hx hy h1 hU hs fun w' hw => h w' hw)
theorem s_stores {E : Prop} {ty : TypeId} {x y : Operand} (hS : St X w0 m0 w es m) {n : Nat} (hn : ∃ d, P.underlying ty = some d ∧ d.isRow = true ∧ (P.info? ty).map (·.size) = some n) {b off : Nat} (hx : a.eval x = .pointer (some ⟨b, off, none⟩)) {vs : List Value} (hy : a.eval y = .agg vs.toArray) (hl : vs.length = n) (h1 : ∀ v ∈ vs, v.oneCell' = true) {cs cs' : List Value} {es' : List Ent}
    (hM : Ent.box b cs ∈ es) (hs : SetsL cs off vs cs') (hU : UpdB es b cs cs' es') (h : ∀ w', St X w0 m0 w' es' m → K (a.put dst undef) w') : if Region.wanted ⟨dst, .store ty x y, rt, pos, af, none⟩ (yielded ops a.tmps) = true then Oper.wp P ⟨dst, .store ty x y, rt, pos, af, none⟩ a w K Q else E := by
  obtain ⟨d, hu, hd, hn⟩ := hn
  exact step_of rfl (a_stores hS ty x y rfl n hn hx hy hl h1 hU hs fun w' hw => h w' hw)
end
/-- Cells that xs lie in. -/
def CellsOf {α : Type} (L : Lay α) (m : Mem) (cells : List Value) (xs : List α) : Prop := ∃ css : List (List Value), cells = css.flatten ∧ css.length = xs.length ∧ ∀ (i : Nat) cs x, css[i]? = some cs → xs[i]? = some x → L.rd m cs x
theorem CellsOf.nil {α : Type} (L : Lay α) (m : Mem) : CellsOf L m [] [] := ⟨[], rfl, rfl, by simp⟩
theorem CellsOf.mono {α : Type} {L : Lay α} {m m' : Mem} {cells : List Value} {xs : List α} (hm : m.Le m') (h : CellsOf L m cells xs) : CellsOf L m' cells xs := by
  obtain ⟨css, h1, h2, h3⟩ := h
  exact ⟨css, h1, h2, fun i cs x hc hx => L.mono hm (h3 i cs x hc hx)⟩
theorem CellsOf.append {α : Type} {L : Lay α} {m : Mem} {c1 c2 : List Value} {x1 x2 : List α} (h : CellsOf L m c1 x1) (k : CellsOf L m c2 x2) : CellsOf L m (c1 ++ c2) (x1 ++ x2) := by
  obtain ⟨css, rfl, h2, h3⟩ := h
  obtain ⟨dss, rfl, k2, k3⟩ := k
  refine ⟨css ++ dss, by simp, by simp [h2, k2], fun i cs x hc hx => ?_⟩
  by_cases hi : i < css.length
  · rw [List.getElem?_append_left hi] at hc
    rw [List.getElem?_append_left (by omega)] at hx
    exact h3 i cs x hc hx
  · rw [List.getElem?_append_right (by omega)] at hc
    rw [List.getElem?_append_right (by omega)] at hx
    rw [← h2] at hx
    exact k3 _ cs x hc hx
theorem CellsOf.one {α : Type} {L : Lay α} {m : Mem} {cs : List Value} {x : α} (h : L.rd m cs x) : CellsOf L m cs [x] := by
  refine ⟨[cs], by simp, rfl, fun i c y hc hy => ?_⟩
  cases i with
  | zero => simp at hc hy; subst hc; subst hy; exact h
  | succ i => simp at hc
theorem CellsOf.snoc {α : Type} {L : Lay α} {m : Mem} {c1 c2 : List Value} {xs : List α} {x : α} (h : CellsOf L m c1 xs) (k : L.rd m c2 x) : CellsOf L m (c1 ++ c2) (xs ++ [x]) := h.append (.one k)
theorem flatten_get {n : Nat} : ∀ (css : List (List Value)), (∀ cs ∈ css, cs.length = n) → css.flatten.length = css.length * n ∧ ∀ (i : Nat) cs j v, css[i]? = some cs → cs[j]? = some v → css.flatten[i * n + j]? = some v
  | [], _ => ⟨by simp, by simp⟩
  | c :: css, h => by
    obtain ⟨h1, h2⟩ := flatten_get css (fun cs hc => h cs (by simp [hc]))
    have hc := h c (by simp)
    refine ⟨by simp [h1, hc, Nat.add_mul, Nat.add_comm], fun i cs j v hi hj => ?_⟩
    have hjl := (List.getElem?_eq_some_iff.1 hj).1
    cases i with
    | zero =>
      simp at hi; subst hi
      rw [List.flatten_cons, List.getElem?_append_left (by omega)]
      simpa using hj
    | succ i =>
      simp at hi
      rw [List.flatten_cons, List.getElem?_append_right (by rw [Nat.add_mul]; omega), ← h2 i cs j v hi hj]
      congr 1
      rw [Nat.add_mul]; omega
theorem flatten_set {n : Nat} : ∀ (css : List (List Value)) (k j : Nat) (v : Value) (cs : List Value), (∀ c ∈ css, c.length = n) → css[k]? = some cs → j < n → css.flatten.set (k * n + j) v = (css.set k (cs.set j v)).flatten
  | [], k, j, v, cs, _, hk, _ => by simp at hk
  | c :: css, 0, j, v, cs, h, hk, hj => by
    simp at hk; subst hk
    have hc := h c (by simp)
    rw [List.flatten_cons, Nat.zero_mul, Nat.zero_add, List.set_append_left _ _ (by omega)]
    simp
  | c :: css, k + 1, j, v, cs, h, hk, hj => by
    simp at hk
    have hc := h c (by simp)
    have ih := flatten_set css k j v cs (fun c hc => h c (by simp [hc])) hk hj
    rw [List.flatten_cons, List.set_append_right _ _ (by rw [hc, Nat.add_mul]; omega), List.set_cons_succ, List.flatten_cons, ← ih]
    congr 2
    rw [hc, Nat.add_mul]; omega
theorem CellsOf.lens {α : Type} {L : Lay α} {m : Mem} {css : List (List Value)} {xs : List α} (h2 : css.length = xs.length) (h3 : ∀ (i : Nat) cs x, css[i]? = some cs → xs[i]? = some x → L.rd m cs x) : ∀ c ∈ css, c.length = L.n := fun cs hc => by
  obtain ⟨i, hi⟩ := List.getElem?_of_mem hc
  have hl := (List.getElem?_eq_some_iff.1 hi).1
  exact L.len (h3 i cs _ hi (List.getElem?_eq_getElem (by omega)))
/-- An element's cells; and what lies there when one of its cells turns. -/
theorem CellsOf.get {α : Type} {L : Lay α} {m : Mem} {cells : List Value} {xs : List α} (h : CellsOf L m cells xs) (k : Nat) (hk : k < xs.length) : ∃ cs, L.rd m cs xs[k] ∧ (∀ j v, cs[j]? = some v → cells[k * L.n + j]? = some v) ∧
    ∀ (m' : Mem) (j : Nat) (v : Value), m.Le m' → j < L.n → L.rd m' (cs.set j v) xs[k] → CellsOf L m' (cells.set (k * L.n + j) v) xs := by
  obtain ⟨css, rfl, h2, h3⟩ := h
  have hl := CellsOf.lens h2 h3
  have hk2 : css[k]? = some css[k] := List.getElem?_eq_getElem (by omega)
  refine ⟨css[k], h3 k _ _ hk2 (List.getElem?_eq_getElem hk), fun j v hj => (flatten_get css hl).2 k _ j v hk2 hj, fun m' j v hle hj hr => ⟨css.set k (css[k].set j v), flatten_set css k j v _ hl hk2 hj, by simpa using h2, fun i cs x hi hx => ?_⟩⟩
  rw [List.getElem?_set] at hi
  by_cases e : k = i
  · subst e
    simp [show k < css.length by omega] at hi
    rw [List.getElem?_eq_getElem hk] at hx
    cases hx
    subst hi
    exact hr
  · rw [if_neg e] at hi
    exact L.mono hle (h3 i cs x hi hx)
theorem CellsOf.length {α : Type} {L : Lay α} {m : Mem} {cells : List Value} {xs : List α} (h : CellsOf L m cells xs) : cells.length = xs.length * L.n := by
  obtain ⟨css, rfl, h2, h3⟩ := h
  rw [(flatten_get (n := L.n) css fun cs hc => ?_).1, h2]
  obtain ⟨i, hi⟩ := List.getElem?_of_mem hc
  have hl := (List.getElem?_eq_some_iff.1 hi).1
  exact L.len (h3 i cs _ hi (List.getElem?_eq_getElem (by omega)))
theorem CellsOf.one1 {α : Type} {L : Lay α} {m : Mem} {cells : List Value} {xs : List α} (h : CellsOf L m cells xs) : ∀ v ∈ cells, v.oneCell' = true := by
  obtain ⟨css, rfl, h2, h3⟩ := h
  intro v hv
  obtain ⟨cs, hc, hv⟩ := List.mem_flatten.1 hv
  obtain ⟨i, hi⟩ := List.getElem?_of_mem hc
  have hl := (List.getElem?_eq_some_iff.1 hi).1
  exact L.one (h3 i cs _ hi (List.getElem?_eq_getElem (by omega))) v hv
theorem CellsOf.row {α : Type} {L : Lay α} {m : Mem} {b o : Nat} {cells : List Value} {xs : List α} (h : CellsOf L m cells xs) (hm : ∀ j v, cells[j]? = some v → m ⟨b, o + j, none⟩ = some v) : Row L m (some ⟨b, o, none⟩) xs := fun _ => by
  obtain ⟨css, rfl, h2, h3⟩ := h
  refine ⟨b, o, rfl, fun i x hx => ?_⟩
  have hil := (List.getElem?_eq_some_iff.1 hx).1
  have hi := List.getElem?_eq_getElem (show i < css.length by omega)
  refine ⟨_, h3 i _ x hi hx, fun j v hj => ?_⟩
  rw [Nat.add_assoc]
  refine hm _ _ ((flatten_get (n := L.n) css fun cs hc => ?_).2 i _ j v hi hj)
  obtain ⟨k, hk⟩ := List.getElem?_of_mem hc
  have hl := (List.getElem?_eq_some_iff.1 hk).1
  exact L.len (h3 k cs _ hk (List.getElem?_eq_getElem (by omega)))
/-- A row that is read, as cells. -/
theorem Row.cells {α : Type} {L : Lay α} {m : Mem} {p : Option Addr} {xs : List α} (h : Row L m p xs) : ∃ cells, CellsOf L m cells xs ∧ ∀ ad, p = some ad → ∀ j u, cells[j]? = some u → m (ad.add j) = some u := by
  rcases Nat.eq_zero_or_pos xs.length with h0 | h0
  · have := List.eq_nil_of_length_eq_zero h0
    subst this
    exact ⟨[], CellsOf.nil _ _, by simp⟩
  · obtain ⟨b, o, rfl, hc⟩ := h h0
    have hex : ∀ i, ∃ cs, ∀ x, xs[i]? = some x → L.rd m cs x ∧ ∀ j v, cs[j]? = some v → m ⟨b, o + i * L.n + j, none⟩ = some v := fun i => by
      cases hx : xs[i]? with
      | none => exact ⟨[], by simp⟩
      | some x => obtain ⟨cs, h1, h2⟩ := hc i x hx; exact ⟨cs, fun y hy => by cases hy; exact ⟨h1, h2⟩⟩
    obtain ⟨g, hg⟩ := Classical.axiomOfChoice hex
    have hget : ∀ (i : Nat) cs, ((List.range xs.length).map g)[i]? = some cs → i < xs.length ∧ cs = g i := fun i cs hi => by
      obtain ⟨hl, rfl⟩ := List.getElem?_eq_some_iff.1 hi
      exact ⟨by simpa using hl, by simp⟩
    refine ⟨((List.range xs.length).map g).flatten, ⟨_, rfl, by simp, fun i cs x hi hx => ?_⟩, fun ad e j u hj => ?_⟩
    · obtain ⟨_, rfl⟩ := hget i cs hi
      exact (hg i x hx).1
    · cases e
      rw [Addr.add_lit]
      have hlen : ∀ cs ∈ (List.range xs.length).map g, cs.length = L.n := fun cs hc => by
        obtain ⟨i, hi⟩ := List.getElem?_of_mem hc
        obtain ⟨hl, rfl⟩ := hget i cs hi
        exact L.len (hg i _ (List.getElem?_eq_getElem hl)).1
      obtain ⟨f1, f2⟩ := flatten_get (n := L.n) _ hlen
      have hjl := (List.getElem?_eq_some_iff.1 hj).1
      rw [f1] at hjl
      simp only [List.length_map, List.length_range] at hjl
      have hn : 0 < L.n := Nat.pos_of_ne_zero fun e => by rw [e] at hjl; omega
      have hq : j / L.n < xs.length := (Nat.div_lt_iff_lt_mul hn).2 hjl
      have hi : ((List.range xs.length).map g)[j / L.n]? = some (g (j / L.n)) := by simp [hq]
      obtain ⟨r1, r2⟩ := hg (j / L.n) _ (List.getElem?_eq_getElem hq)
      have hr : j % L.n < (g (j / L.n)).length := by rw [L.len r1]; exact Nat.mod_lt _ hn
      have h5 := f2 (j / L.n) _ (j % L.n) _ hi (List.getElem?_eq_getElem hr)
      have hj' : j / L.n * L.n + j % L.n = j := by rw [Nat.mul_comm]; exact Nat.div_add_mod j L.n
      rw [hj', hj] at h5
      have h6 := r2 (j % L.n) _ (List.getElem?_eq_getElem hr)
      rw [Nat.add_assoc, hj'] at h6
      rw [h6, ← h5]
/-- A row of its own is let be: what lies there is read from now on. -/
theorem St.settleRow {α : Type} {L : Lay α} (hS : St X w0 m0 w es m) (i : Nat) {e : TypeId} {v : Value} {cells : List Value} {xs : List α} (hi : es[i]? = some (.row e L.n v xs.length cells)) (hc : CellsOf L m cells xs) (hb : xs.length * L.bytes ≤ 140737488355328) :
    ∃ m', St X w0 m0 w (es.eraseIdx i) m' ∧ m.Le m' ∧ L.list.rd m' [v] xs := by
  obtain ⟨m', h1, h2, h3⟩ := hS.settle i _ hi
  refine ⟨m', h1, h2, ?_⟩
  have hown := hS.row i hi
  rcases hown.2 with ⟨rfl, h0⟩ | ⟨g, cap, cur, rfl, _, hh, k1, k2, k3, k4⟩
  · have := List.eq_nil_of_length_eq_zero h0
    subst this
    exact Lay.nil_rd L m'
  · refine ⟨_, cap, rfl, k1, k2, hb, (hc.mono h2).row fun j u hj => ?_⟩
    refine h3 _ _ rfl ?_
    have := hown.cells (g := g) rfl j u hj
    rw [Addr.add_lit] at this
    exact this
/-- A block of its own is let be. -/
theorem St.settleBox (hS : St X w0 m0 w es m) (i : Nat) {b : Nat} {cs : List Value} (hi : es[i]? = some (.box b cs)) :
    ∃ m', St X w0 m0 w (es.eraseIdx i) m' ∧ m.Le m' ∧ ∀ j v, cs[j]? = some v → m' ⟨b, j, none⟩ = some v := by
  obtain ⟨m', h1, h2, h3⟩ := hS.settle i _ hi
  exact ⟨m', h1, h2, fun j v hj => h3 _ _ rfl ((hS.box i hi).get j v hj).1⟩
/-! ### Types -/
theorem rowT2 : ∃ d, Try.prog.underlying 2 = some d ∧ d.isRow = false ∧ (Try.prog.info? 2).map (·.size) = some 1 := ⟨_, Try.underlying2, rfl, by kernel_rfl⟩
theorem rowT3 : ∃ d, Try.prog.underlying 3 = some d ∧ d.isRow = false ∧ (Try.prog.info? 3).map (·.size) = some 1 := ⟨_, Try.underlying3, rfl, by kernel_rfl⟩
theorem rowT4 : ∃ d, Try.prog.underlying 4 = some d ∧ d.isRow = false ∧ (Try.prog.info? 4).map (·.size) = some 1 := ⟨_, Try.underlying4, rfl, by kernel_rfl⟩
theorem rowT5 : ∃ d, Try.prog.underlying 5 = some d ∧ d.isRow = false ∧ (Try.prog.info? 5).map (·.size) = some 1 := ⟨_, Try.underlying5, rfl, by kernel_rfl⟩
theorem rowT22 : ∃ d, Try.prog.underlying 22 = some d ∧ d.isRow = false ∧ (Try.prog.info? 22).map (·.size) = some 1 := ⟨_, Try.underlying22, rfl, by kernel_rfl⟩
theorem rowT24 : ∃ d, Try.prog.underlying 24 = some d ∧ d.isRow = false ∧ (Try.prog.info? 24).map (·.size) = some 1 := ⟨_, Try.underlying24, rfl, by kernel_rfl⟩
theorem rowT42 : ∃ d, Try.prog.underlying 42 = some d ∧ d.isRow = false ∧ (Try.prog.info? 42).map (·.size) = some 1 := ⟨_, Try.underlying42, rfl, by kernel_rfl⟩
theorem rowT44 : ∃ d, Try.prog.underlying 44 = some d ∧ d.isRow = true ∧ (Try.prog.info? 44).map (·.size) = some 4 := ⟨_, Try.underlying44, rfl, by kernel_rfl⟩
theorem rowT49 : ∃ d, Try.prog.underlying 49 = some d ∧ d.isRow = true ∧ (Try.prog.info? 49).map (·.size) = some 3 := ⟨_, Try.underlying49, rfl, by kernel_rfl⟩
theorem rowT53 : ∃ d, Try.prog.underlying 53 = some d ∧ d.isRow = true ∧ (Try.prog.info? 53).map (·.size) = some 2 := ⟨_, Try.underlying53, rfl, by kernel_rfl⟩
theorem rowT70 : ∃ d, Try.prog.underlying 70 = some d ∧ d.isRow = true ∧ (Try.prog.info? 70).map (·.size) = some 5 := ⟨_, Try.underlying70, rfl, by kernel_rfl⟩
theorem rowT88 : ∃ d, Try.prog.underlying 88 = some d ∧ d.isRow = true ∧ (Try.prog.info? 88).map (·.size) = some 8 := ⟨_, Try.underlying88, rfl, by kernel_rfl⟩
theorem rowT91 : ∃ d, Try.prog.underlying 91 = some d ∧ d.isRow = true ∧ (Try.prog.info? 91).map (·.size) = some 32 := ⟨_, Try.underlying91, rfl, by kernel_rfl⟩
theorem rowT102 : ∃ d, Try.prog.underlying 102 = some d ∧ d.isRow = true ∧ (Try.prog.info? 102).map (·.size) = some 2 := ⟨_, Try.underlying102, rfl, by kernel_rfl⟩
theorem rowT118 : ∃ d, Try.prog.underlying 118 = some d ∧ d.isRow = true ∧ (Try.prog.info? 118).map (·.size) = some 3 := ⟨_, Try.underlying118, rfl, by kernel_rfl⟩
end Go.Proofs.Ytnmgiiaejpaeeaa
/- The rules of a walk: appends, literals of slices, makes, copies. -/
namespace Go.Proofs.Ytnmgiiaejpaeeaa
set_option linter.unusedVariables false
set_option linter.unusedSimpArgs false
open Go.RowKit
variable {ops : Array Oper} {P : Program} {X : List Nat} {w0 w : World} {m0 m : Mem} {es : List Ent} {o : Oper} {a : Act} {K : Act → World → Prop} {Q : Exit → Act → World → Prop}
theorem run_append_none_cap {t ty e : TypeId} {ti : TypeInfo} (ht : P.underlying t = some (.slice e)) (hi : P.info? e = some ti) {size n : Nat} {v : Value} {xs : List Value} (hown : w.ownsRow 0 e size v n xs) (c : Nat) :
    (Builtin.append_ #[t, t] ty #[v, .slice none 0 c]).run P w = .ok v w := by
  rcases hown.2 with ⟨rfl, rfl⟩ | ⟨g, cap, cur, rfl, hbg, hgg, hnc, hcm, hcs, htake⟩
  · simp [Builtin.append_, run_underlying ht, sizeOf, typeInfo, hi, Builtin.lenOf, Builtin.firstCells]
  · simp [Builtin.append_, run_underlying ht, sizeOf, typeInfo, hi, Builtin.lenOf, Builtin.firstCells, hnc, storeCells]
theorem row_form {size n : Nat} {e : TypeId} {v : Value} {xs : List Value} (h : w.ownsRow 0 e size v n xs) : ∃ q c, v = .slice q n c := by
  rcases h.2 with ⟨rfl, rfl⟩ | ⟨g, cap, cur, rfl, _⟩
  · exact ⟨_, _, rfl⟩
  · exact ⟨_, _, rfl⟩
theorem op_append' (hS : St X w0 m0 w es m) {t e : TypeId} {size bytes : Nat} {z : Value} (hE : Elem P t e size bytes z) (s x : Operand) (ho : o.op = .call { callee := .builtin .append, args := #[s, x], argTypes := #[t, t] })
    {v : Value} {n : Nat} {xs : List Value} {p : Option Addr} {k c : Nat} {news : List Value} {f : Value → Nat → List Value → List Ent} (hs : a.eval s = v) (hi : RowAt es e size v n xs f) (hx : a.eval x = .slice p k c) (hl : news.length = k * size)
    (hp : p = none → k = 0) (hnews : ∀ ad, p = some ad → ∀ j u, news[j]? = some u → w.cell? (ad.add j) = some u) (h1 : ∀ u ∈ news, u.oneCell' = true) (hbytes : (n + k) * bytes ≤ 140737488355328) (hb : 0 < bytes)
    (h' : ∀ w' q c, St X w0 m0 w' (f (.slice q (n + k) c) (n + k) (xs ++ news)) m → K (a.put o.dst (.slice q (n + k) c)) w') : o.wp P a w K Q := by
  have h : ∀ w' v', St X w0 m0 w' (f v' (n + k) (xs ++ news)) m → K (a.put o.dst v') w' := fun w' v' hw => by
    obtain ⟨i, hi1, hf⟩ := hi.at
    have hil := (List.getElem?_eq_some_iff.1 hi1).1
    obtain ⟨q, c, rfl⟩ := row_form (hw.row i (show _ = some (Ent.row e size v' (n + k) (xs ++ news)) by rw [hf]; simp [hil]))
    exact h' w' q c hw
  have h63 : n + k ≤ maxLen := by
    have := Nat.le_mul_of_pos_right (n + k) hb
    simp only [maxLen]
    omega
  cases p with
  | some ad => exact a_append hS hE s x ho hs hi hx hl (by simp) hnews h1 h63 hbytes h
  | none =>
    obtain rfl := hp rfl
    have hn0 : news = [] := List.eq_nil_of_length_eq_zero (by omega)
    subst hn0
    obtain ⟨i, hi1, hf⟩ := hi.at
    obtain ⟨ti, ht1, ht2, ht3, ht4⟩ := hE.at
    have hown := hS.row i hi1
    have hrun := run_append_none_cap (P := P) (w := w) (ty := o.type) hE.under ht1 hown c
    have h2 := h w v (by
      rw [hf]
      exact hS.set i _ (.row e size v (n + 0) (xs ++ [])) hi1 (w' := w) ⟨rfl, rfl, rfl, Nat.le_refl _, fun _ _ _ => rfl⟩ (by simpa [Ent.ok] using hown) (fun _ h => .inl h))
    unfold Oper.wp
    simp [execOp, ho, resolve, invoke, builtin, hs, hx, hrun, Result.andThen]
    exact h2
/-- What is appended is read. -/
theorem op_appendL {α : Type} {L : Lay α} (hS : St X w0 m0 w es m) {t e : TypeId} {z : Value} (hE : Elem P t e L.n L.bytes z) (s x : Operand) (ho : o.op = .call { callee := .builtin .append, args := #[s, x], argTypes := #[t, t] })
    {v xv : Value} {n : Nat} {xs : List Value} {ys : List α} {f : Value → Nat → List Value → List Ent} (hs : a.eval s = v) (hi : RowAt es e L.n v n xs f) (hx : a.eval x = xv) (hr : L.list.rd m [xv] ys) (hbytes : (n + ys.length) * L.bytes ≤ 140737488355328) (hb : 0 < L.bytes)
    (h : ∀ w' q c news, CellsOf L m news ys → St X w0 m0 w' (f (.slice q (n + ys.length) c) (n + ys.length) (xs ++ news)) m → K (a.put o.dst (.slice q (n + ys.length) c)) w') : o.wp P a w K Q := by
  obtain ⟨p, c, e1, r1, r2, r3, r4⟩ := hr
  cases e1
  obtain ⟨cells, hc, hm⟩ := r4.cells
  refine op_append' hS hE s x ho hs hi hx hc.length (fun e => ?_) (fun ad e j u hj => hS.inw _ _ (hm ad e j u hj)) hc.one1 hbytes hb fun w' q c hw => h w' q c cells hc hw
  subst e
  rcases Nat.eq_zero_or_pos ys.length with h0 | h0
  · exact h0
  · obtain ⟨b, o, e, _⟩ := r4 h0
    cases e
theorem op_appendL_nil {α : Type} {L : Lay α} (hS : St X w0 m0 w es m) {t e : TypeId} {z : Value} (hE : Elem P t e L.n L.bytes z) (s x : Operand) (ho : o.op = .call { callee := .builtin .append, args := #[s, x], argTypes := #[t, t] })
    {xv : Value} {ys : List α} (hs : a.eval s = .slice none 0 0) (hx : a.eval x = xv) (hr : L.list.rd m [xv] ys) (hb : 0 < L.bytes)
    (h : ∀ w' q c news, CellsOf L m news ys → St X w0 m0 w' (.row e L.n (.slice q ys.length c) ys.length news :: es) m → K (a.put o.dst (.slice q ys.length c)) w') : o.wp P a w K Q :=
  op_appendL (hS.nilRow e L.n) hE s x ho hs .head hx hr (by obtain ⟨p, c, e1, r1, r2, r3, r4⟩ := hr; simpa using r3) hb fun w' q c news hc hw => by simpa using h w' q c news hc (by simpa using hw)
/-- What is appended lies in a block of its own. -/
theorem op_appendB (hS : St X w0 m0 w es m) {t e : TypeId} {size bytes : Nat} {z : Value} (hE : Elem P t e size bytes z) (s x : Operand) (ho : o.op = .call { callee := .builtin .append, args := #[s, x], argTypes := #[t, t] })
    {v : Value} {n : Nat} {xs : List Value} {b k c : Nat} {cs : List Value} {f : Value → Nat → List Value → List Ent} (hs : a.eval s = v) (hi : RowAt es e size v n xs f) (hx : a.eval x = .slice (some ⟨b, 0, none⟩) k c) (hM : Ent.box b cs ∈ es) (hl : cs.length = k * size) (h1 : ∀ u ∈ cs, u.oneCell' = true)
    (hbytes : (n + k) * bytes ≤ 140737488355328) (hb : 0 < bytes) (h : ∀ w' q c, St X w0 m0 w' (f (.slice q (n + k) c) (n + k) (xs ++ cs)) m → K (a.put o.dst (.slice q (n + k) c)) w') : o.wp P a w K Q := by
  obtain ⟨i, hi2⟩ := List.getElem?_of_mem hM
  refine op_append' hS hE s x ho hs hi hx hl (by simp) (fun ad e j u hj => ?_) h1 hbytes hb h
  cases e
  rw [Addr.add_lit, Nat.zero_add]
  exact ((hS.box i hi2).get j u hj).1
/-- A literal of a slice. -/
theorem op_lit (hS : St X w0 m0 w es m) {t e : TypeId} {size bytes : Nat} {z : Value} (hE : Elem P t e size bytes z) (len : Nat) (parts : Array (Nat × Operand)) (ho : o.op = .buildSlice t len parts) (hlen : len * size ≤ 16777216) (hpos : len * size ≠ 0) (cs : List Value)
    (hf : Instr.fill (fun i => some (i * size, size)) ((Array.range (len * size)).map (z.cells[· % z.cells.size]!)) (parts.map fun (i, x) => (i, a.eval x)).toList = some cs.toArray)
    (h : ∀ w' b, St X w0 m0 w' (.box b cs :: es) m → K (a.put o.dst (.slice (some ⟨b, 0, none⟩) len len)) w') : o.wp P a w K Q := by
  obtain ⟨ti, ht1, ht2, ht3, ht4⟩ := hE.at
  have hrun : (Instr.buildSlice t len (parts.map fun (i, x) => (i, a.eval x))).run P w = .ok (.slice (some ⟨w.heap.size, 0, none⟩) len len) (w.alloc (.cells cs.toArray e)) := by
    have hn : ¬ (16777216 < len * size) := by omega
    simp only [Instr.buildSlice, Sem.run_bind, run_underlying hE.under, Result.andThen_ok, sizeOf, typeInfo, zeroValue]
    have hf2 : Instr.fill (fun i => some (i * size, size)) (Array.map (fun x => z.cells[x % z.cells.size]!) (Array.range (len * size))) (List.map (fun x => (x.fst, a.eval x.snd)) parts.toList) = some cs.toArray := by simpa using hf
    simp [ht1, ht2, ht3, hn, hpos, newRow, newObj, Sem.run_bind, Sem.run, ← World.alloc_eq]
    rw [hf2]
    rfl
  unfold Oper.wp execOp
  simp only [ho, Sem.run_bind, hrun, Result.andThen_ok, Sem.run_pure]
  exact h _ _ (hS.box_new cs e)
section
variable {rest : List Oper} {dst : Option Tmp} {rt : TypeId} {pos : String} {af : Array Edge} {E : Prop}
theorem l_append {α : Type} (L : Lay α) {t e : TypeId} {z : Value} (hE : Elem P t e L.n L.bytes z) {s x : Operand} (hS : St X w0 m0 w es m) (hb : 0 < L.bytes) {v xv : Value} {n : Nat} {xs : List Value} {ys : List α} {f : Value → Nat → List Value → List Ent}
    (hs : a.eval s = v) (hi : RowAt es e L.n v n xs f) (hx : a.eval x = xv) (hr : L.list.rd m [xv] ys) (hbytes : (n + ys.length) * L.bytes ≤ 140737488355328)
    (h : ∀ w' q c news, CellsOf L m news ys → St X w0 m0 w' (f (.slice q (n + ys.length) c) (n + ys.length) (xs ++ news)) m → wpList P ops Q rest (a.put dst (.slice q (n + ys.length) c)) w') : wpList P ops Q (⟨dst, .call { callee := .builtin .append, args := #[s, x], argTypes := #[t, t] }, rt, pos, af, none⟩ :: rest) a w :=
  wpList_plain rfl fun K hK => op_appendL hS hE s x rfl hs hi hx hr hbytes hb fun w' q c news hc hw => hK _ _ (h w' q c news hc hw)
theorem s_append {α : Type} (L : Lay α) {t e : TypeId} {z : Value} (hE : Elem P t e L.n L.bytes z) {s x : Operand} (hS : St X w0 m0 w es m) (hb : 0 < L.bytes) {v xv : Value} {n : Nat} {xs : List Value} {ys : List α} {f : Value → Nat → List Value → List Ent}
    (hs : a.eval s = v) (hi : RowAt es e L.n v n xs f) (hx : a.eval x = xv) (hr : L.list.rd m [xv] ys) (hbytes : (n + ys.length) * L.bytes ≤ 140737488355328)
    (h : ∀ w' q c news, CellsOf L m news ys → St X w0 m0 w' (f (.slice q (n + ys.length) c) (n + ys.length) (xs ++ news)) m → K (a.put dst (.slice q (n + ys.length) c)) w') : if Region.wanted ⟨dst, .call { callee := .builtin .append, args := #[s, x], argTypes := #[t, t] }, rt, pos, af, none⟩ (yielded ops a.tmps) = true then Oper.wp P ⟨dst, .call { callee := .builtin .append, args := #[s, x], argTypes := #[t, t] }, rt, pos, af, none⟩ a w K Q else E :=
  step_of rfl (op_appendL hS hE s x rfl hs hi hx hr hbytes hb fun w' q c news hc hw => h w' q c news hc hw)
theorem l_append_nil {α : Type} (L : Lay α) {t e : TypeId} {z : Value} (hE : Elem P t e L.n L.bytes z) {s x : Operand} (hS : St X w0 m0 w es m) (hb : 0 < L.bytes) {xv : Value} {ys : List α}
    (hs : a.eval s = .slice none 0 0) (hx : a.eval x = xv) (hr : L.list.rd m [xv] ys)
    (h : ∀ w' q c news, CellsOf L m news ys → St X w0 m0 w' (.row e L.n (.slice q ys.length c) ys.length news :: es) m → wpList P ops Q rest (a.put dst (.slice q ys.length c)) w') : wpList P ops Q (⟨dst, .call { callee := .builtin .append, args := #[s, x], argTypes := #[t, t] }, rt, pos, af, none⟩ :: rest) a w :=
  wpList_plain rfl fun K hK => op_appendL_nil hS hE s x rfl hs hx hr hb fun w' q c news hc hw => hK _ _ (h w' q c news hc hw)
theorem s_append_nil {α : Type} (L : Lay α) {t e : TypeId} {z : Value} (hE : Elem P t e L.n L.bytes z) {s x : Operand} (hS : St X w0 m0 w es m) (hb : 0 < L.bytes) {xv : Value} {ys : List α}
    (hs : a.eval s = .slice none 0 0) (hx : a.eval x = xv) (hr : L.list.rd m [xv] ys)
    (h : ∀ w' q c news, CellsOf L m news ys → St X w0 m0 w' (.row e L.n (.slice q ys.length c) ys.length news :: es) m → K (a.put dst (.slice q ys.length c)) w') : if Region.wanted ⟨dst, .call { callee := .builtin .append, args := #[s, x], argTypes := #[t, t] }, rt, pos, af, none⟩ (yielded ops a.tmps) = true then Oper.wp P ⟨dst, .call { callee := .builtin .append, args := #[s, x], argTypes := #[t, t] }, rt, pos, af, none⟩ a w K Q else E :=
  step_of rfl (op_appendL_nil hS hE s x rfl hs hx hr hb fun w' q c news hc hw => h w' q c news hc hw)
theorem l_appendB {t e : TypeId} {size bytes : Nat} {z : Value} (hE : Elem P t e size bytes z) {s x : Operand} (hS : St X w0 m0 w es m) (hb : 0 < bytes) {v : Value} {n : Nat} {xs : List Value} {b k c : Nat} {cs : List Value} {f : Value → Nat → List Value → List Ent} (hs : a.eval s = v) (hi : RowAt es e size v n xs f)
    (hx : a.eval x = .slice (some ⟨b, 0, none⟩) k c) (hM : Ent.box b cs ∈ es) (hl : cs.length = k * size) (h1 : ∀ u ∈ cs, u.oneCell' = true) (hbytes : (n + k) * bytes ≤ 140737488355328)
    (h : ∀ w' q c, St X w0 m0 w' (f (.slice q (n + k) c) (n + k) (xs ++ cs)) m → wpList P ops Q rest (a.put dst (.slice q (n + k) c)) w') : wpList P ops Q (⟨dst, .call { callee := .builtin .append, args := #[s, x], argTypes := #[t, t] }, rt, pos, af, none⟩ :: rest) a w :=
  wpList_plain rfl fun K hK => op_appendB hS hE s x rfl hs hi hx hM hl h1 hbytes hb fun w' q c hw => hK _ _ (h w' q c hw)
theorem s_appendB {t e : TypeId} {size bytes : Nat} {z : Value} (hE : Elem P t e size bytes z) {s x : Operand} (hS : St X w0 m0 w es m) (hb : 0 < bytes) {v : Value} {n : Nat} {xs : List Value} {b k c : Nat} {cs : List Value} {f : Value → Nat → List Value → List Ent} (hs : a.eval s = v) (hi : RowAt es e size v n xs f)
    (hx : a.eval x = .slice (some ⟨b, 0, none⟩) k c) (hM : Ent.box b cs ∈ es) (hl : cs.length = k * size) (h1 : ∀ u ∈ cs, u.oneCell' = true) (hbytes : (n + k) * bytes ≤ 140737488355328)
    (h : ∀ w' q c, St X w0 m0 w' (f (.slice q (n + k) c) (n + k) (xs ++ cs)) m → K (a.put dst (.slice q (n + k) c)) w') : if Region.wanted ⟨dst, .call { callee := .builtin .append, args := #[s, x], argTypes := #[t, t] }, rt, pos, af, none⟩ (yielded ops a.tmps) = true then Oper.wp P ⟨dst, .call { callee := .builtin .append, args := #[s, x], argTypes := #[t, t] }, rt, pos, af, none⟩ a w K Q else E :=
  step_of rfl (op_appendB hS hE s x rfl hs hi hx hM hl h1 hbytes hb fun w' q c hw => h w' q c hw)
theorem l_lit {t e : TypeId} {size bytes : Nat} {z : Value} (hE : Elem P t e size bytes z) {len : Nat} {parts : Array (Nat × Operand)} (hS : St X w0 m0 w es m) {cs : List Value} (hlen : len * size ≤ 16777216) (hpos : len * size ≠ 0)
    (hf : Instr.fill (fun i => some (i * size, size)) ((Array.range (len * size)).map (z.cells[· % z.cells.size]!)) (parts.map fun (i, x) => (i, a.eval x)).toList = some cs.toArray)
    (h : ∀ w' b, St X w0 m0 w' (.box b cs :: es) m → wpList P ops Q rest (a.put dst (.slice (some ⟨b, 0, none⟩) len len)) w') : wpList P ops Q (⟨dst, .buildSlice t len parts, rt, pos, af, none⟩ :: rest) a w :=
  wpList_plain rfl fun K hK => op_lit hS hE len parts rfl hlen hpos cs hf fun w' b hw => hK _ _ (h w' b hw)
theorem s_lit {t e : TypeId} {size bytes : Nat} {z : Value} (hE : Elem P t e size bytes z) {len : Nat} {parts : Array (Nat × Operand)} (hS : St X w0 m0 w es m) {cs : List Value} (hlen : len * size ≤ 16777216) (hpos : len * size ≠ 0)
    (hf : Instr.fill (fun i => some (i * size, size)) ((Array.range (len * size)).map (z.cells[· % z.cells.size]!)) (parts.map fun (i, x) => (i, a.eval x)).toList = some cs.toArray)
    (h : ∀ w' b, St X w0 m0 w' (.box b cs :: es) m → K (a.put dst (.slice (some ⟨b, 0, none⟩) len len)) w') : if Region.wanted ⟨dst, .buildSlice t len parts, rt, pos, af, none⟩ (yielded ops a.tmps) = true then Oper.wp P ⟨dst, .buildSlice t len parts, rt, pos, af, none⟩ a w K Q else E :=
  step_of rfl (op_lit hS hE len parts rfl hlen hpos cs hf fun w' b hw => h w' b hw)
end
end Go.Proofs.Ytnmgiiaejpaeeaa
/- How a write, and a disk, lie in cells. -/
namespace Go.Proofs.Ytnmgiiaejpaeeaa
set_option linter.unusedVariables false
set_option linter.unusedSimpArgs false
open Go.RowKit
theorem el_u8 : Elem Try.prog 22 5 1 1 (.int .u8 0) := ⟨Try.underlying22, by kernel_rfl, rfl, by decide⟩
theorem el_wr : Elem Try.prog 42 102 2 32 (.agg #[.int .i64 0, .slice none 0 0]) := ⟨Try.underlying42, by kernel_rfl, rfl, by decide⟩
theorem cellsInt {k : IntKind} {m : Mem} {cells : List Value} {xs : List Int} (h : CellsOf (Lay.int k) m cells xs) : cells = xs.map (.int k) ∧ ∀ x ∈ xs, InK k x := by
  obtain ⟨css, rfl, h2, h3⟩ := h
  have hcs : css = xs.map fun x => [.int k x] := by
    apply List.ext_getElem (by simp [h2])
    intro i h4 h5
    simp at h5
    have := (h3 i _ _ (List.getElem?_eq_getElem h4) (List.getElem?_eq_getElem h5)).1
    simpa using this
  refine ⟨?_, fun x hx => ?_⟩
  · rw [hcs]
    clear hcs h3 h2
    induction xs with
    | nil => rfl
    | cons x xs ih => simp [ih]
  · obtain ⟨i, hi, rfl⟩ := List.getElem_of_mem hx
    exact (h3 i _ _ (List.getElem?_eq_getElem (by omega)) (List.getElem?_eq_getElem hi)).2
def wrL : Lay Wr := (i64L.prod bytesL).by 32 fun x => (x.pos, x.b)
theorem wrL_open {m : Mem} {cs : List Value} {x : Wr} (h : wrL.rd m cs x) : ∃ v, cs = [.int .i64 x.pos, v] ∧ InK .i64 x.pos ∧ bytesL.rd m [v] x.b := by
  obtain ⟨c1, c2, rfl, ⟨rfl, h1⟩, h2⟩ := h
  have := bytesL.len h2
  match c2, this with
  | [v], _ => exact ⟨v, rfl, h1, h2⟩
def dkL : Lay Dk := (((bytesL.prod wrL.list).prod i64L).prod Lay.bool).by 64 fun d => (((d.dry, d.wet), d.fuse), d.dead)
theorem dkL_open {m : Mem} {cs : List Value} {d : Dk} (h : dkL.rd m cs d) : ∃ v0 v1, cs = [v0, v1, .int .i64 d.fuse, .bool d.dead] ∧ bytesL.rd m [v0] d.dry ∧ wrL.list.rd m [v1] d.wet ∧ InK .i64 d.fuse := by
  obtain ⟨c1, c2, rfl, ⟨c3, c4, rfl, ⟨c5, c6, rfl, h5, h6⟩, h4, hk⟩, h2⟩ := h
  have e1 := bytesL.len h5
  have e2 := wrL.list.len h6
  match c5, e1, c6, e2 with
  | [v0], _, [v1], _ => exact ⟨v0, v1, by rw [h4, h2]; rfl, h5, h6, hk⟩
theorem Lay.list_open {α : Type} {L : Lay α} {m : Mem} {v : Value} {xs : List α} (h : L.list.rd m [v] xs) : ∃ p c, v = .slice p xs.length c ∧ xs.length ≤ c ∧ c ≤ maxLen ∧ xs.length * L.bytes ≤ 140737488355328 ∧ Row L m p xs := by
  obtain ⟨p, c, e, h⟩ := h
  cases e
  exact ⟨p, c, rfl, h⟩
theorem wrL_mk {m : Mem} {x : Wr} {v : Value} (hk : InK .i64 x.pos) (h : bytesL.rd m [v] x.b) : wrL.rd m [.int .i64 x.pos, v] x := ⟨[.int .i64 x.pos], [v], rfl, ⟨rfl, hk⟩, h⟩
theorem dkL_mk {m : Mem} {d : Dk} {v0 v1 : Value} (h0 : bytesL.rd m [v0] d.dry) (h1 : wrL.list.rd m [v1] d.wet) (hk : InK .i64 d.fuse) : dkL.rd m [v0, v1, .int .i64 d.fuse, .bool d.dead] d :=
  ⟨[v0, v1, .int .i64 d.fuse], [.bool d.dead], rfl, ⟨[v0, v1], [.int .i64 d.fuse], rfl, ⟨[v0], [v1], rfl, h0, h1⟩, rfl, hk⟩, rfl⟩
theorem dkRow : ∃ d, Try.prog.underlying 44 = some d ∧ d.isRow = true ∧ (Try.prog.info? 44).map (·.size) = some 4 := ⟨_, Try.underlying44, rfl, by kernel_rfl⟩
end Go.Proofs.Ytnmgiiaejpaeeaa
/- Contracts of the disk's reference: Few, Check. -/
namespace Go.Proofs.Ytnmgiiaejpaeeaa
set_option linter.unusedVariables false
set_option linter.unusedSimpArgs false
open Go.RowKit
theorem all_take {α : Type} (p : α → Bool) (l : List α) (n : Nat) (h : (l.take n).all p = false) : l.all p = false := by
  rw [List.all_eq_false] at h ⊢
  obtain ⟨x, hx, hp⟩ := h
  exact ⟨x, List.mem_of_mem_take hx, hp⟩
theorem ret_bool' {a b : Bool} (h : a = b) : Value.bool a = Value.bool b := by rw [h]
def fewB (d : Dk) : Bool := decide (d.dry.length ≤ 40000) && decide (d.wet.length ≤ 600) && d.wet.all fun x => decide (x.b.length ≤ 100)
set_option maxRecDepth 100000 in
set_option maxHeartbeats 2000000 in
theorem few_c (m : Mem) (w : World) (hm : m.In w) (cs : List Value) (d : Dk) (h : dkL.rd m cs d) :
    Calls Try.prog 41 #[.agg cs.toArray] w (Ret w m fun v _ => v = .bool (fewB d)) := by
  obtain ⟨v0, v1, rfl, h0, h1, _⟩ := dkL_open h
  obtain ⟨p0, c0, rfl, a1, a2, a3, a4⟩ := Lay.list_open h0
  obtain ⟨p1, c1, rfl, b1, b2, b3, b4⟩ := Lay.list_open h1
  have hS := St.start hm
  simp only [maxLen] at a2 b2
  clear h h0 h1 a3 b3
  go_enter Try.func41, Try.ntmps41
  go_wp2_with (first 
    | ((with_reducible apply l_box (ty := 44) (y := (.tmp 0)) hS); (· (first | (go_simp; done) | (go_simp; with_reducible rfl))); (· exact rfl); clear hS; intro w1 b1 hS)
    | ((with_reducible apply l_alloc (ty := 102) (dst := some 4) hS (.agg #[.int .i64 0, .slice none 0 0]) [.int .i64 0, .slice none 0 0]); (· kernel_rfl); (· rfl); clear hS; intro w4 b4 hS)
    | ((with_reducible apply l_load hS); (· (first | exact Try.underlying22 | exact Try.underlying42)); (· exact rfl); (· exact rfl); (· (first | (apply Find.box; (· (repeat constructor)); rfl) | exact Find.mem (by assumption) | (apply Find.row; (· (repeat constructor)); assumption))))
    | ((with_reducible apply g_load hS); (· (first | exact Try.underlying22 | exact Try.underlying42)); (· exact rfl); (· (first | rfl | (go_simp; done))); (· exact rfl); (· (first | (apply Find.box; (· (repeat constructor)); rfl) | exact Find.mem (by assumption) | (apply Find.row; (· (repeat constructor)); assumption))))
    | ((with_reducible apply l_loads hS); (· (first | exact rowT102)); (· exact rfl); (· (first | (apply Finds.box; (· (repeat constructor)); (· (repeat constructor)); done) | (refine Finds.mem2 (by assumption) ?_; first | rfl | assumption | (simp; done)) | (apply Finds.row; (· (repeat constructor)); (· assumption); (· rfl)))))
    | ((with_reducible apply g_loads hS); (· (first | exact rowT102)); (· (first | rfl | (go_simp; done))); (· exact rfl); (· (first | (apply Finds.box; (· (repeat constructor)); (· (repeat constructor)); done) | (refine Finds.mem2 (by assumption) ?_; first | rfl | assumption | (simp; done)) | (apply Finds.row; (· (repeat constructor)); (· assumption); (· rfl)))))
    | ((with_reducible apply l_stores hS); (· (first | exact rowT102)); (· exact rfl); (· exact rfl); (· exact rfl); (· (first | assumption | (simp [Value.oneCell']; done))); (· (repeat constructor)); (· (repeat constructor)); (· (repeat constructor)); clear hS; intro ws hS))
  · go_ret
    exact ⟨_, m, rfl, ret_bool' (by simp_all [fewB]; try omega), hS.done⟩
  · go_loopw [18] (fun i wr => ∃ k : Nat, k ≤ d.wet.length ∧ i = .int .i64 k ∧ Hid ((d.wet.take k).all (fun x => decide (x.b.length ≤ 100)) = true) ∧ St [] w m wr [.box b1 [.slice p0 d.dry.length c0, .slice p1 d.wet.length c1, .int .i64 d.fuse, .bool d.dead]] m) (fun i _ => d.wet.length - (intOf i).toNat)
    case atStart => exact ⟨0, Nat.zero_le _, rfl, by simp [Hid], hS⟩
    case round =>
      clear hS
      obtain ⟨k, hk, rfl, hall, hS⟩ := hrel
      by_cases hlt : k < d.wet.length
      · obtain ⟨b, o, cs, rfl, hx, hg⟩ := b4.get k hlt
        obtain ⟨v, rfl, _, hv⟩ := wrL_open hx
        obtain ⟨q, c, rfl, x1, x2, x3, x4⟩ := Lay.list_open hv
        have hg' : ∀ j v, [.int .i64 d.wet[k].pos, .slice q d.wet[k].b.length c][j]? = some v → m ⟨b, o + k * 2 + j, none⟩ = some v := hg
        have HA : Hid ((d.wet.take (k + 1)).all (fun x => decide (x.b.length ≤ 100)) = decide (d.wet[k].b.length ≤ 100)) := by
          have := hall.out
          show _ = _
          rw [List.take_succ_eq_append_getElem hlt, List.all_append, this]; simp
        simp only [maxLen] at x2
        clear hg hx hv hall x3
        go_wp2_with (first 
    | ((with_reducible apply l_box (ty := 44) (y := (.tmp 0)) hS); (· (first | (go_simp; done) | (go_simp; with_reducible rfl))); (· exact rfl); clear hS; intro w1 b1 hS)
    | ((with_reducible apply l_alloc (ty := 102) (dst := some 4) hS (.agg #[.int .i64 0, .slice none 0 0]) [.int .i64 0, .slice none 0 0]); (· kernel_rfl); (· rfl); clear hS; intro w4 b4 hS)
    | ((with_reducible apply l_load hS); (· (first | exact Try.underlying22 | exact Try.underlying42)); (· exact rfl); (· exact rfl); (· (first | (apply Find.box; (· (repeat constructor)); rfl) | exact Find.mem (by assumption) | (apply Find.row; (· (repeat constructor)); assumption))))
    | ((with_reducible apply g_load hS); (· (first | exact Try.underlying22 | exact Try.underlying42)); (· exact rfl); (· (first | rfl | (go_simp; done))); (· exact rfl); (· (first | (apply Find.box; (· (repeat constructor)); rfl) | exact Find.mem (by assumption) | (apply Find.row; (· (repeat constructor)); assumption))))
    | ((with_reducible apply l_loads hS); (· (first | exact rowT102)); (· exact rfl); (· (first | (apply Finds.box; (· (repeat constructor)); (· (repeat constructor)); done) | (refine Finds.mem2 (by assumption) ?_; first | rfl | assumption | (simp; done)) | (apply Finds.row; (· (repeat constructor)); (· assumption); (· rfl)))))
    | ((with_reducible apply g_loads hS); (· (first | exact rowT102)); (· (first | rfl | (go_simp; done))); (· exact rfl); (· (first | (apply Finds.box; (· (repeat constructor)); (· (repeat constructor)); done) | (refine Finds.mem2 (by assumption) ?_; first | rfl | assumption | (simp; done)) | (apply Finds.row; (· (repeat constructor)); (· assumption); (· rfl)))))
    | ((with_reducible apply l_stores hS); (· (first | exact rowT102)); (· exact rfl); (· exact rfl); (· exact rfl); (· (first | assumption | (simp [Value.oneCell']; done))); (· (repeat constructor)); (· (repeat constructor)); (· (repeat constructor)); clear hS; intro ws hS))
        · go_ret
          exact ⟨_, m, rfl, ret_bool' (by have := all_take _ _ _ (HA.out.trans (by simp; omega)); simp [fewB, this]), hS.done⟩
        · go_roundw
          case rel => exact ⟨k + 1, hlt, by go_num, HA.out.trans (by simp; omega), hS.drop _ (by simp)⟩
          case measure => simp [intOf]; omega
      · obtain rfl : k = d.wet.length := by omega
        go_wp2_with (first 
    | ((with_reducible apply l_box (ty := 44) (y := (.tmp 0)) hS); (· (first | (go_simp; done) | (go_simp; with_reducible rfl))); (· exact rfl); clear hS; intro w1 b1 hS)
    | ((with_reducible apply l_alloc (ty := 102) (dst := some 4) hS (.agg #[.int .i64 0, .slice none 0 0]) [.int .i64 0, .slice none 0 0]); (· kernel_rfl); (· rfl); clear hS; intro w4 b4 hS)
    | ((with_reducible apply l_load hS); (· (first | exact Try.underlying22 | exact Try.underlying42)); (· exact rfl); (· exact rfl); (· (first | (apply Find.box; (· (repeat constructor)); rfl) | exact Find.mem (by assumption) | (apply Find.row; (· (repeat constructor)); assumption))))
    | ((with_reducible apply g_load hS); (· (first | exact Try.underlying22 | exact Try.underlying42)); (· exact rfl); (· (first | rfl | (go_simp; done))); (· exact rfl); (· (first | (apply Find.box; (· (repeat constructor)); rfl) | exact Find.mem (by assumption) | (apply Find.row; (· (repeat constructor)); assumption))))
    | ((with_reducible apply l_loads hS); (· (first | exact rowT102)); (· exact rfl); (· (first | (apply Finds.box; (· (repeat constructor)); (· (repeat constructor)); done) | (refine Finds.mem2 (by assumption) ?_; first | rfl | assumption | (simp; done)) | (apply Finds.row; (· (repeat constructor)); (· assumption); (· rfl)))))
    | ((with_reducible apply g_loads hS); (· (first | exact rowT102)); (· (first | rfl | (go_simp; done))); (· exact rfl); (· (first | (apply Finds.box; (· (repeat constructor)); (· (repeat constructor)); done) | (refine Finds.mem2 (by assumption) ?_; first | rfl | assumption | (simp; done)) | (apply Finds.row; (· (repeat constructor)); (· assumption); (· rfl)))))
    | ((with_reducible apply l_stores hS); (· (first | exact rowT102)); (· exact rfl); (· exact rfl); (· exact rfl); (· (first | assumption | (simp [Value.oneCell']; done))); (· (repeat constructor)); (· (repeat constructor)); (· (repeat constructor)); clear hS; intro ws hS))
        go_ret
        exact ⟨_, m, rfl, ret_bool' (by have := hall.out; rw [List.take_length] at this; simp [fewB, this]; omega), hS.done⟩
  · go_ret
    exact ⟨_, m, rfl, ret_bool' (by simp [fewB]; omega), hS.done⟩
end Go.Proofs.Ytnmgiiaejpaeeaa
/- Regions that draw their order, over the state of a walk: what only reads is taken first, what turns the world is branched over. -/
namespace Go.Proofs.Ytnmgiiaejpaeeaa
set_option linter.unusedVariables false
set_option linter.unusedSimpArgs false
open Go.RowKit
variable {P : Program} {X : List Nat} {w0 w : World} {m0 m : Mem} {es : List Ent}
/-- What every world of the region bears: m, and these blocks. -/
def Sx (m : Mem) (bs : List (Nat × List Value)) (w : World) : Prop := m.In w ∧ ∀ x ∈ bs, BoxIn w x.1 x.2
theorem St.sx0 (hS : St X w0 m0 w es m) : Sx m [] w := ⟨hS.inw, by simp⟩
theorem Sx.cons {bs : List (Nat × List Value)} {b : Nat} {cs : List Value} (h : Sx m bs w) (hS : St X w0 m0 w es m) (hM : Ent.box b cs ∈ es) : Sx m ((b, cs) :: bs) w :=
  ⟨h.1, fun x hx => by
    rcases List.mem_cons.1 hx with rfl | hx
    · exact (hS.has _ hM).1
    · exact h.2 x hx⟩
inductive FindX (bs : List (Nat × List Value)) (m : Mem) (b off : Nat) (v : Value) : Prop
  | box {cs : List Value} : (b, cs) ∈ bs → cs[off]? = some v → FindX bs m b off v
  | mem : m ⟨b, off, none⟩ = some v → FindX bs m b off v
theorem FindX.get {bs : List (Nat × List Value)} {b off : Nat} {v : Value} (h : FindX bs m b off v) (hw : Sx m bs w) : w.cell? ⟨b, off, none⟩ = some v := by
  cases h with
  | box h1 h2 => exact ((hw.2 _ h1).get off v h2).1
  | mem h => exact hw.1 _ _ h
inductive FindsX (bs : List (Nat × List Value)) (m : Mem) (b off n : Nat) (vs : List Value) : Prop
  | box {cs : List Value} : (b, cs) ∈ bs → SubL cs off n vs → FindsX bs m b off n vs
  | mem : (∀ j v, vs[j]? = some v → m ⟨b, off + j, none⟩ = some v) → vs.length = n → FindsX bs m b off n vs
theorem FindsX.get {bs : List (Nat × List Value)} {b off n : Nat} {vs : List Value} (h : FindsX bs m b off n vs) (hw : Sx m bs w) : vs.length = n ∧ w.rangeAt b off vs := by
  cases h with
  | box h1 h2 =>
    refine ⟨h2.eq.1, fun j v hj => ((hw.2 _ h1).get _ v ?_).1⟩
    have hl := (List.getElem?_eq_some_iff.1 hj).1
    rw [← h2.eq.2, List.getElem?_take_of_lt hl, List.getElem?_drop] at hj
    exact hj
  | mem h2 h1 => exact ⟨h1, fun j v hj => hw.1 _ _ (h2 j v hj)⟩
/-- es is rest, and x somewhere. -/
inductive Out : List Ent → Ent → List Ent → Prop
  | head {l : List Ent} {x : Ent} : Out (x :: l) x l
  | tail {l l' : List Ent} {x y : Ent} : Out l x l' → Out (y :: l) x (y :: l')
theorem Out.perm {es rest : List Ent} {x : Ent} (h : Out es x rest) : es.Perm (x :: rest) := by
  induction h with
  | head => exact .refl _
  | tail h ih => exact (List.Perm.cons _ ih).trans (List.Perm.swap _ _ _)
theorem St.perm {es' : List Ent} (hS : St X w0 m0 w es m) (hp : es.Perm es') : St X w0 m0 w es' m :=
  ⟨hS.kept, fun x hx => hS.has x (hp.mem_iff.2 hx), (hp.pairwise_iff (fun h b h1 h2 => h b h2 h1)).1 hS.apart, fun a v hv => ⟨(hS.know a v hv).1, fun x hx => (hS.know a v hv).2 x (hp.mem_iff.2 hx)⟩, hS.le, hS.new⟩
theorem St.front {x : Ent} {rest : List Ent} (hS : St X w0 m0 w es m) (h : Out es x rest) : St X w0 m0 w (x :: rest) m := hS.perm h.perm
/-- What else the call holds is forgotten. -/
theorem St.forget {x : Ent} {rest : List Ent} (hS : St X w0 m0 w es m) (h : Out es x rest) : St X w0 m0 w rest m := (hS.front h).drop _ (List.sublist_cons_self _ _)
theorem s_load {ops : Array Oper} {a : Act} {K : Act → World → Prop} {Q : Exit → Act → World → Prop} {dst : Option Tmp} {rt : TypeId} {pos : String} {af : Array Edge} {E : Prop} {ty : TypeId} {x : Operand} (hS : St X w0 m0 w es m) {d : TypeDesc} (hu : P.underlying ty = some d) (hd : d.isRow = false) {b off : Nat} (hx : a.eval x = .pointer (some ⟨b, off, none⟩)) {v : Value} (hv : Find es m b off v)
    (h : K (a.put dst v) w) : if Region.wanted ⟨dst, .load ty x, rt, pos, af, none⟩ (yielded ops a.tmps) = true then Oper.wp P ⟨dst, .load ty x, rt, pos, af, none⟩ a w K Q else E := step_of rfl (a_load hS ty x rfl hu hd hx hv h)
section
variable {l : List Oper} {md : Region.Mode} {Q : Exit → Act → World → Prop} {S : World → Prop} {fuel : Nat} {listed : Array Bool} {a : Act}
theorem getL {l : List Oper} {i : Nat} {o : Oper} (hi : l[i]? = some o) : l.toArray[i]? = some o := by simpa using hi
theorem takeL (i : Nat) {oi : Oper} {v : Value} (hi : l[i]? = some oi) (hs : Region.noSelect l.toArray = true) (hf : Region.free md l.toArray listed i = true) (hr : (Region.ready md l.toArray listed).contains i = true)
    (hQ : ∀ c a w, Q (.panic c) (a.put oi.dst v) w → Q (.panic c) a w) (hS : S w) (hw : Region.wanted oi (yielded l.toArray a.tmps) = true) (hy : ∀ w, S w → (execOp a.eval oi).run P w = .ok (.value v) w)
    (h : wpAnyH P md l.toArray Q S fuel (listed.setIfInBounds i true) (a.put oi.dst v) w) : wpAnyH P md l.toArray Q S (fuel + 1) listed a w :=
  wpAnyH_take (getL hi) hs hf hr hQ (.inl ⟨hw, hy⟩) hS h
theorem skipL (i : Nat) {oi : Oper} (hi : l[i]? = some oi) (hs : Region.noSelect l.toArray = true) (hf : Region.free md l.toArray listed i = true) (hr : (Region.ready md l.toArray listed).contains i = true)
    (hQ : ∀ c a w, Q (.panic c) (a.put oi.dst undef) w → Q (.panic c) a w) (hS : S w) (hw : Region.wanted oi (yielded l.toArray a.tmps) = false)
    (h : wpAnyH P md l.toArray Q S fuel (listed.setIfInBounds i true) (a.put oi.dst undef) w) : wpAnyH P md l.toArray Q S (fuel + 1) listed a w :=
  wpAnyH_take (getL hi) hs hf hr hQ (.inr ⟨hw, rfl⟩) hS h
theorem nz1 {α : Type} {l : List α} {i : Nat} {v : α} : l.toArray.setIfInBounds i v = (l.set i v).toArray := List.setIfInBounds_toArray ..
theorem nz2 {α : Type} {l : List α} {x v : α} : (x :: l).set 0 v = v :: l := rfl
theorem nz3 {α : Type} {l : List α} {x v : α} {i : Nat} : (x :: l).set (i + 1) v = x :: l.set i v := rfl
theorem takeG (i : Nat) {oi : Oper} {v : Value} (hi : l[i]? = some oi) (hc : (Region.noSelect l.toArray && (Region.free md l.toArray listed i && (Region.ready md l.toArray listed).contains i)) = true)
    (hw : Region.wanted oi (yielded l.toArray a.tmps) = true) (hy : ∀ w, S w → (execOp a.eval oi).run P w = .ok (.value v) w)
    (h : wpAnyH P md l.toArray (NoPanic Q) S fuel (listed.setIfInBounds i true) (a.put oi.dst v) w) (hS : S w := by assumption) : wpAnyH P md l.toArray (NoPanic Q) S (fuel + 1) listed a w := by
  simp only [Bool.and_eq_true] at hc
  exact takeL i hi hc.1 hc.2.1 hc.2.2 (fun _ _ _ h => h) hS hw hy h
theorem takeN (i : Nat) {oi : Oper} {v : Value} (hi : l[i]? = some oi) (hc : (Region.noSelect l.toArray && (Region.free md l.toArray listed i && (Region.ready md l.toArray listed).contains i)) = true)
    (hy : ∀ w, S w → (execOp a.eval oi).run P w = .ok (.value v) w)
    (h : wpAnyH P md l.toArray (NoPanic Q) S fuel (listed.setIfInBounds i true) (a.put oi.dst v) w) (hS : S w := by assumption) (hw : Region.wanted oi (yielded l.toArray a.tmps) = true := by first | rfl | (go_simp <;> fail)) : wpAnyH P md l.toArray (NoPanic Q) S (fuel + 1) listed a w :=
  takeG i hi hc hw hy h hS
theorem skipG (i : Nat) {oi : Oper} (hi : l[i]? = some oi) (hc : (Region.noSelect l.toArray && (Region.free md l.toArray listed i && (Region.ready md l.toArray listed).contains i)) = true)
    (hw : Region.wanted oi (yielded l.toArray a.tmps) = false)
    (h : wpAnyH P md l.toArray (NoPanic Q) S fuel (listed.setIfInBounds i true) (a.put oi.dst undef) w) (hS : S w := by assumption) : wpAnyH P md l.toArray (NoPanic Q) S (fuel + 1) listed a w := by
  simp only [Bool.and_eq_true] at hc
  exact skipL i hi hc.1 hc.2.1 hc.2.2 (fun _ _ _ h => h) hS hw h
theorem yield_load {o : Oper} {ty : TypeId} {x : Operand} {bs : List (Nat × List Value)} (ho : o.op = .load ty x) {d : TypeDesc} (hu : P.underlying ty = some d) (hd : d.isRow = false) {b off : Nat} (hx : a.eval x = .pointer (some ⟨b, off, none⟩)) {v : Value} (hv : FindX bs m b off v) :
    ∀ w, Sx m bs w → (execOp a.eval o).run P w = .ok (.value v) w := fun w hw => by
  unfold execOp
  simp only [ho, hx, Instr.loadAt, Instr.sureAddr, Sem.run_bind, Sem.run_pure, Result.andThen_ok, run_loadVar_one (hv.get hw) hu hd]
theorem yield_loads {o : Oper} {ty : TypeId} {x : Operand} {bs : List (Nat × List Value)} (ho : o.op = .load ty x) {n : Nat} (hn : ∃ d, P.underlying ty = some d ∧ d.isRow = true ∧ (P.info? ty).map (·.size) = some n) {b off : Nat} (hx : a.eval x = .pointer (some ⟨b, off, none⟩)) {vs : List Value} (hv : FindsX bs m b off n vs) :
    ∀ w, Sx m bs w → (execOp a.eval o).run P w = .ok (.value (.agg vs.toArray)) w := fun w hw => by
  obtain ⟨d, hu, hd, hn⟩ := hn
  unfold execOp
  simp only [ho, hx, Sem.run_bind, Sem.run_pure, Result.andThen_ok, run_loadAt_mid w b off ty vs d (hv.get hw).2 hu hd (by rw [(hv.get hw).1]; exact hn)]
theorem consL (i : Nat) {o : Oper} {rs : List Nat} (hi : l[i]? = some o)
    (h : ∀ K' : Act → World → Prop, Shut (∀ a w, S w → (S w → wpAnyH P md l.toArray Q S fuel (listed.setIfInBounds i true) a w) → K' a w) → if Region.wanted o (yielded l.toArray a.tmps) = true then Oper.wp P o a w K' Q else K' (a.put o.dst undef) w)
    (hs : AllReadyH P md l.toArray Q S fuel listed a w rs) : AllReadyH P md l.toArray Q S fuel listed a w (i :: rs) := AllReadyH.cons (getL hi) h hs
theorem startL {id : Nat} (hm : P.follows .mixedOrders = true) (hS : S w.drew) (hQ : ∀ c a w, ¬ Q (.panic c) a w → True)
    (h : S w.drew → wpAnyH P .any l.toArray (NoPanic Q) S l.toArray.size (Array.replicate l.toArray.size false) a w.drew) : (Code.region id l.toArray true).wp P Q a w :=
  wp_region_noPanic (wp_region_held_drew hm hS h)
end
/-! ### Results that lie in a block -/
theorem ret_cell {fn : Func} {R : Ending → World → Prop} {a : Act} {p : Tmp} {ty : TypeId} {b n : Nat} {vs : List Value} (h : fn.results = #[.cell p ty]) (hp : a.tmps.getD p undef = .pointer (some ⟨b, 0, none⟩)) (hS : St X w0 m0 w es m) (hM : Ent.box b vs ∈ es) (hl : vs.length = n)
    (hn : ∃ d, P.underlying ty = some d ∧ d.isRow = true ∧ (P.info? ty).map (·.size) = some n) (hd : a.defers = []) (hR : R (.returned (.agg vs.toArray)) w) : bodyPost P fn R .ret a w := by
  obtain ⟨d, h1, h2, h3⟩ := hn
  have hb : BoxIn w b vs := (hS.has _ hM).1
  have hrun := run_loadVar_mid (P := P) w b 0 ty vs d (fun j v hj => by rw [Nat.zero_add]; exact (hb.get j v hj).1) h1 h2 (by rw [hl]; exact h3)
  have hp' : a.tmps[p]?.getD undef = .pointer (some ⟨b, 0, none⟩) := by simpa using hp
  refine bodyPost_ret_by ?_ hd hR
  simp [results, h, hp', asAddr, hrun]
theorem ret_cell_tmp {fn : Func} {R : Ending → World → Prop} {a : Act} {p u : Tmp} {ty : TypeId} {b n : Nat} {vs : List Value} (h : fn.results = #[.cell p ty, .tmp u]) (hp : a.tmps.getD p undef = .pointer (some ⟨b, 0, none⟩)) (hS : St X w0 m0 w es m) (hM : Ent.box b vs ∈ es) (hl : vs.length = n)
    (hn : ∃ d, P.underlying ty = some d ∧ d.isRow = true ∧ (P.info? ty).map (·.size) = some n) (hd : a.defers = []) (hR : R (.returned (.tuple #[.agg vs.toArray, a.tmps.getD u undef])) w) : bodyPost P fn R .ret a w := by
  obtain ⟨d, h1, h2, h3⟩ := hn
  have hb : BoxIn w b vs := (hS.has _ hM).1
  have hrun := run_loadVar_mid (P := P) w b 0 ty vs d (fun j v hj => by rw [Nat.zero_add]; exact (hb.get j v hj).1) h1 h2 (by rw [hl]; exact h3)
  have hp' : a.tmps[p]?.getD undef = .pointer (some ⟨b, 0, none⟩) := by simpa using hp
  refine bodyPost_ret_by ?_ hd hR
  simp [results, h, hp', asAddr, hrun]
end Go.Proofs.Ytnmgiiaejpaeeaa
/- Contract of the disk's reference: Copy. -/
namespace Go.Proofs.Ytnmgiiaejpaeeaa
set_option linter.unusedVariables false
set_option linter.unusedSimpArgs false
open Go.RowKit
/-- A disk of its own is handed back. -/
def OwnD (w : World) (m : Mem) (d : Dk) (e : Ending) (w' : World) : Prop :=
  ∃ vd vq cells m', e = .returned (.agg #[vd, vq, .int .i64 d.fuse, .bool d.dead]) ∧ CellsOf wrL m' cells d.wet ∧ St [] w m w' [.row 5 1 vd d.dry.length (d.dry.map (.int .u8)), .row 102 2 vq d.wet.length cells] m'
set_option maxRecDepth 100000 in
set_option maxHeartbeats 4000000 in
theorem copy_c (m : Mem) (w : World) (hm : m.In w) (cs : List Value) (d : Dk) (h : dkL.rd m cs d) :
    Calls Try.prog 42 #[.agg cs.toArray] w (OwnD w m d) := by
  obtain ⟨v0, v1, rfl, h0, h1, _⟩ := dkL_open h
  obtain ⟨p1, c1, rfl, b1, b2, b3, b4⟩ := Lay.list_open h1
  obtain ⟨p0, c0, rfl, _⟩ := Lay.list_open h0
  have hS := St.start hm
  simp only [maxLen] at b2
  have HB3 := Lib.hid b3
  clear h h1 b3
  go_enter Try.func42, Try.ntmps42
  go_wp2_with (first 
    | ((with_reducible apply l_box (ty := 44) (y := (.tmp 0)) hS); (· (first | (go_simp; done) | (go_simp; with_reducible rfl))); (· exact rfl); clear hS; intro w1 b1 hS)
    | ((with_reducible apply l_alloc (ty := 44) (dst := some 2) hS (.agg #[.slice none 0 0, .slice none 0 0, .int .i64 0, .bool false]) [.slice none 0 0, .slice none 0 0, .int .i64 0, .bool false]); (· kernel_rfl); (· rfl); clear hS; intro w2 b2 hS)
    | ((with_reducible apply l_alloc (ty := 44) (dst := some 3) hS (.agg #[.slice none 0 0, .slice none 0 0, .int .i64 0, .bool false]) [.slice none 0 0, .slice none 0 0, .int .i64 0, .bool false]); (· kernel_rfl); (· rfl); clear hS; intro w3 b3 hS)
    | ((with_reducible apply l_alloc (ty := 102) (dst := some 5) hS (.agg #[.int .i64 0, .slice none 0 0]) [.int .i64 0, .slice none 0 0]); (· kernel_rfl); (· rfl); clear hS; intro w5 b5 hS)
    | ((with_reducible apply l_load hS); (· (first | exact Try.underlying3 | exact Try.underlying4 | exact Try.underlying22 | exact Try.underlying42)); (· exact rfl); (· exact rfl); (· (first | (apply Find.box; (· (repeat constructor)); rfl) | exact Find.mem (by assumption) | (apply Find.row; (· (repeat constructor)); assumption))))
    | ((with_reducible apply g_load hS); (· (first | exact Try.underlying3 | exact Try.underlying4 | exact Try.underlying22 | exact Try.underlying42)); (· exact rfl); (· (first | rfl | (go_simp; done))); (· exact rfl); (· (first | (apply Find.box; (· (repeat constructor)); rfl) | exact Find.mem (by assumption) | (apply Find.row; (· (repeat constructor)); assumption))))
    | ((with_reducible apply l_loads hS); (· (first | exact rowT44 | exact rowT102)); (· exact rfl); (· (first | (apply Finds.box; (· (repeat constructor)); (· (repeat constructor)); done) | (refine Finds.mem2 (by assumption) ?_; first | rfl | assumption | (simp; done)) | (apply Finds.row; (· (repeat constructor)); (· assumption); (· rfl)))))
    | ((with_reducible apply g_loads hS); (· (first | exact rowT44 | exact rowT102)); (· (first | rfl | (go_simp; done))); (· exact rfl); (· (first | (apply Finds.box; (· (repeat constructor)); (· (repeat constructor)); done) | (refine Finds.mem2 (by assumption) ?_; first | rfl | assumption | (simp; done)) | (apply Finds.row; (· (repeat constructor)); (· assumption); (· rfl)))))
    | ((with_reducible apply l_store hS); (· (first | exact rowT42)); (· exact rfl); (· (first | (go_simp; done) | (go_simp; with_reducible rfl))); (· (first | rfl | assumption | (simp [Value.oneCell']; done))); (· (repeat constructor)); (· (repeat constructor)); (· (repeat constructor)); clear hS; intro ws hS)
    | ((with_reducible apply l_storeR hS); (· (first | exact rowT42)); (· exact rfl); (· (first | (go_simp; done) | (go_simp; with_reducible rfl))); (· (first | rfl | assumption | (simp [Value.oneCell']; done))); (· (repeat constructor)); (· (first | assumption | omega | (simp; omega))); clear hS; intro ws hS)
    | ((with_reducible apply l_stores hS); (· (first | exact rowT44 | exact rowT102)); (· exact rfl); (· exact rfl); (· exact rfl); (· (first | assumption | (simp [Value.oneCell']; done))); (· (repeat constructor)); (· (repeat constructor)); (· (repeat constructor)); clear hS; intro ws hS))
  replace hS := hS.drew
  refine startL (S := Sx _ [(b1, _)]) (by kernel_rfl) (hS.sx0.cons hS (by (repeat constructor))) (fun _ _ _ _ => trivial) (fun hHeld => ?_)
  focus (refine takeN 0 (v := ?_) rfl (by kernel_rfl) ?_ ?_; rotate_left; focus (intro w hSw; clear hSw; go_simp; try with_reducible rfl))
  try simp only [Act.put, nz1, nz2, nz3]
  refine takeN 1 rfl (by kernel_rfl) (yield_load rfl Try.underlying22 rfl rfl (by (first | (apply FindX.box; (· (repeat constructor)); rfl) | exact FindX.mem (by assumption)))) ?_
  try simp only [Act.put, nz1, nz2, nz3]
  focus (refine takeN 3 (v := ?_) rfl (by kernel_rfl) ?_ ?_; rotate_left; focus (intro w hSw; clear hSw; go_simp; try with_reducible rfl))
  try simp only [Act.put, nz1, nz2, nz3]
  refine takeN 4 rfl (by kernel_rfl) (yield_load rfl Try.underlying3 rfl rfl (by (first | (apply FindX.box; (· (repeat constructor)); rfl) | exact FindX.mem (by assumption)))) ?_
  try simp only [Act.put, nz1, nz2, nz3]
  focus (refine takeN 5 (v := ?_) rfl (by kernel_rfl) ?_ ?_; rotate_left; focus (intro w hSw; clear hSw; go_simp; try with_reducible rfl))
  try simp only [Act.put, nz1, nz2, nz3]
  refine takeN 6 rfl (by kernel_rfl) (yield_load rfl Try.underlying4 rfl rfl (by (first | (apply FindX.box; (· (repeat constructor)); rfl) | exact FindX.mem (by assumption)))) ?_
  try simp only [Act.put, nz1, nz2, nz3]
  refine wpAnyH_ready (rs := [2, 8]) (by kernel_rfl) (by simp) ?_
  refine consL 2 rfl (fun K hK => ?_) (consL 8 rfl (fun K hK => ?_) AllReadyH.nil)
  rotate_right
  focus
    (with_reducible apply s_alloc hS (.agg #[.slice none 0 0, .slice none 0 0, .int .i64 0, .bool false]) [.slice none 0 0, .slice none 0 0, .int .i64 0, .bool false]); (· kernel_rfl); (· rfl); clear hS; intro w3 b3 hS
    refine hK.out _ _ (by first | exact (hS.sx0.cons hS (by (repeat constructor))) | exact Sx.le (by assumption) (hS.sx0.cons hS (by (repeat constructor)))) (fun hHeld => ?_)
    clear hK K
    try simp only [Act.put, nz1, nz2, nz3]
    refine wpAnyH_ready (rs := [2]) (by kernel_rfl) (by simp) ?_
    refine consL 2 rfl (fun K hK => ?_) AllReadyH.nil
    (with_reducible apply s_append_nil u8L el_u8 hS (by decide)); (· exact rfl); (· exact rfl); (· exact h0); clear hS; intro w8 q8 c8 news8 hc8 hS
    refine hK.out _ _ (by first | exact (hS.sx0.cons hS (by (repeat constructor))) | exact Sx.le (by assumption) (hS.sx0.cons hS (by (repeat constructor)))) (fun hHeld => ?_)
    clear hK K
    try simp only [Act.put, nz1, nz2, nz3]
    focus (refine takeN 7 (v := ?_) rfl (by kernel_rfl) ?_ ?_; rotate_left; focus (intro w hSw; clear hSw; go_simp; try with_reducible rfl))
    try simp only [Act.put, nz1, nz2, nz3]
    refine wpAnyH_ready (rs := [9]) (by kernel_rfl) (by simp) ?_
    refine consL 9 rfl (fun K hK => ?_) AllReadyH.nil
    (with_reducible apply s_stores hS); (· exact rowT44); (· exact rfl); (· exact rfl); (· exact rfl); (· (first | assumption | (simp [Value.oneCell']; done))); (· (repeat constructor)); (· (repeat constructor)); (· (repeat constructor)); clear hS; intro ws hS
    refine hK.out _ _ (by first | exact (hS.sx0.cons hS (by (repeat constructor))) | exact Sx.le (by assumption) (hS.sx0.cons hS (by (repeat constructor)))) (fun hHeld => ?_)
    clear hK K
    try simp only [Act.put, nz1, nz2, nz3]
    refine wpAnyH_done (by kernel_rfl) ?_ _
    refine NoPanic.normal ?_
  rotate_right
  focus
    (with_reducible apply s_append_nil u8L el_u8 hS (by decide)); (· exact rfl); (· exact rfl); (· exact h0); clear hS; intro w8 q8 c8 news8 hc8 hS
    refine hK.out _ _ (by first | exact (hS.sx0.cons hS (by (repeat constructor))) | exact Sx.le (by assumption) (hS.sx0.cons hS (by (repeat constructor)))) (fun hHeld => ?_)
    clear hK K
    try simp only [Act.put, nz1, nz2, nz3]
    focus (refine takeN 7 (v := ?_) rfl (by kernel_rfl) ?_ ?_; rotate_left; focus (intro w hSw; clear hSw; go_simp; try with_reducible rfl))
    try simp only [Act.put, nz1, nz2, nz3]
    refine wpAnyH_ready (rs := [8]) (by kernel_rfl) (by simp) ?_
    refine consL 8 rfl (fun K hK => ?_) AllReadyH.nil
    (with_reducible apply s_alloc hS (.agg #[.slice none 0 0, .slice none 0 0, .int .i64 0, .bool false]) [.slice none 0 0, .slice none 0 0, .int .i64 0, .bool false]); (· kernel_rfl); (· rfl); clear hS; intro w3 b3 hS
    refine hK.out _ _ (by first | exact (hS.sx0.cons hS (by (repeat constructor))) | exact Sx.le (by assumption) (hS.sx0.cons hS (by (repeat constructor)))) (fun hHeld => ?_)
    clear hK K
    try simp only [Act.put, nz1, nz2, nz3]
    refine wpAnyH_ready (rs := [9]) (by kernel_rfl) (by simp) ?_
    refine consL 9 rfl (fun K hK => ?_) AllReadyH.nil
    (with_reducible apply s_stores hS); (· exact rowT44); (· exact rfl); (· exact rfl); (· exact rfl); (· (first | assumption | (simp [Value.oneCell']; done))); (· (repeat constructor)); (· (repeat constructor)); (· (repeat constructor)); clear hS; intro ws hS
    refine hK.out _ _ (by first | exact (hS.sx0.cons hS (by (repeat constructor))) | exact Sx.le (by assumption) (hS.sx0.cons hS (by (repeat constructor)))) (fun hHeld => ?_)
    clear hK K
    try simp only [Act.put, nz1, nz2, nz3]
    refine wpAnyH_done (by kernel_rfl) ?_ _
    refine NoPanic.normal ?_
  all_goals
    replace hS := (hS.front (x := .box b3 _) (by (repeat constructor))).front (x := .row 5 1 _ _ _) (by (repeat constructor))
    obtain ⟨e8, _⟩ := cellsInt hc8
    subst e8
    go_wp2_with (first 
    | ((with_reducible apply l_box (ty := 44) (y := (.tmp 0)) hS); (· (first | (go_simp; done) | (go_simp; with_reducible rfl))); (· exact rfl); clear hS; intro w1 b1 hS)
    | ((with_reducible apply l_alloc (ty := 44) (dst := some 2) hS (.agg #[.slice none 0 0, .slice none 0 0, .int .i64 0, .bool false]) [.slice none 0 0, .slice none 0 0, .int .i64 0, .bool false]); (· kernel_rfl); (· rfl); clear hS; intro w2 b2 hS)
    | ((with_reducible apply l_alloc (ty := 44) (dst := some 3) hS (.agg #[.slice none 0 0, .slice none 0 0, .int .i64 0, .bool false]) [.slice none 0 0, .slice none 0 0, .int .i64 0, .bool false]); (· kernel_rfl); (· rfl); clear hS; intro w3 b3 hS)
    | ((with_reducible apply l_alloc (ty := 102) (dst := some 5) hS (.agg #[.int .i64 0, .slice none 0 0]) [.int .i64 0, .slice none 0 0]); (· kernel_rfl); (· rfl); clear hS; intro w5 b5 hS)
    | ((with_reducible apply l_load hS); (· (first | exact Try.underlying3 | exact Try.underlying4 | exact Try.underlying22 | exact Try.underlying42)); (· exact rfl); (· exact rfl); (· (first | (apply Find.box; (· (repeat constructor)); rfl) | exact Find.mem (by assumption) | (apply Find.row; (· (repeat constructor)); assumption))))
    | ((with_reducible apply g_load hS); (· (first | exact Try.underlying3 | exact Try.underlying4 | exact Try.underlying22 | exact Try.underlying42)); (· exact rfl); (· (first | rfl | (go_simp; done))); (· exact rfl); (· (first | (apply Find.box; (· (repeat constructor)); rfl) | exact Find.mem (by assumption) | (apply Find.row; (· (repeat constructor)); assumption))))
    | ((with_reducible apply l_loads hS); (· (first | exact rowT44 | exact rowT102)); (· exact rfl); (· (first | (apply Finds.box; (· (repeat constructor)); (· (repeat constructor)); done) | (refine Finds.mem2 (by assumption) ?_; first | rfl | assumption | (simp; done)) | (apply Finds.row; (· (repeat constructor)); (· assumption); (· rfl)))))
    | ((with_reducible apply g_loads hS); (· (first | exact rowT44 | exact rowT102)); (· (first | rfl | (go_simp; done))); (· exact rfl); (· (first | (apply Finds.box; (· (repeat constructor)); (· (repeat constructor)); done) | (refine Finds.mem2 (by assumption) ?_; first | rfl | assumption | (simp; done)) | (apply Finds.row; (· (repeat constructor)); (· assumption); (· rfl)))))
    | ((with_reducible apply l_store hS); (· (first | exact rowT42)); (· exact rfl); (· (first | (go_simp; done) | (go_simp; with_reducible rfl))); (· (first | rfl | assumption | (simp [Value.oneCell']; done))); (· (repeat constructor)); (· (repeat constructor)); (· (repeat constructor)); clear hS; intro ws hS)
    | ((with_reducible apply l_storeR hS); (· (first | exact rowT42)); (· exact rfl); (· (first | (go_simp; done) | (go_simp; with_reducible rfl))); (· (first | rfl | assumption | (simp [Value.oneCell']; done))); (· (repeat constructor)); (· (first | assumption | omega | (simp; omega))); clear hS; intro ws hS)
    | ((with_reducible apply l_stores hS); (· (first | exact rowT44 | exact rowT102)); (· exact rfl); (· exact rfl); (· exact rfl); (· (first | assumption | (simp [Value.oneCell']; done))); (· (repeat constructor)); (· (repeat constructor)); (· (repeat constructor)); clear hS; intro ws hS))
    go_loopw [17] (fun i wr => ∃ (k : Nat) (vq : Option Addr) (cq : Nat) (cells : List Value) (m' : Mem), k ≤ d.wet.length ∧ i = .int .i64 k ∧ m.Le m' ∧ CellsOf wrL m' cells (d.wet.take k) ∧ St [] w m wr [.row 102 2 (.slice vq k cq) k cells, .row 5 1 (.slice q8 d.dry.length c8) d.dry.length (d.dry.map (.int .u8)), .box b3 [.slice q8 d.dry.length c8, .slice vq k cq, .int .i64 d.fuse, .bool d.dead], .box b2 [.slice none 0 0, .slice none 0 0, .int .i64 0, .bool false], .box b1 [.slice p0 d.dry.length c0, .slice p1 d.wet.length c1, .int .i64 d.fuse, .bool d.dead]] m') (fun i _ => d.wet.length - (intOf i).toNat)
    case atStart => exact ⟨0, none, 0, [], m, Nat.zero_le _, rfl, Mem.Le.refl _, CellsOf.nil _ _, hS.nilRow _ _⟩
    case round =>
      clear hS
      obtain ⟨k, vq, cq, cells, m', hk, rfl, hle, hcells, hS⟩ := hrel
      by_cases hlt : k < d.wet.length
      · obtain ⟨b, o, cs, rfl, hx, hg⟩ := (b4.mono hle).get k hlt
        obtain ⟨v, rfl, hpk, hv⟩ := wrL_open hx
        obtain ⟨q, c, rfl, _⟩ := Lay.list_open hv
        have hg' : ∀ j v, [.int .i64 d.wet[k].pos, .slice q d.wet[k].b.length c][j]? = some v → m' ⟨b, o + k * 2 + j, none⟩ = some v := hg
        have HV := Lib.hid hv
        have HP := Lib.hid hpk
        have HG := Lib.hid hcells
        clear hg hx hcells hpk
        go_wp2_with (first 
    | ((with_reducible apply l_box (ty := 44) (y := (.tmp 0)) hS); (· (first | (go_simp; done) | (go_simp; with_reducible rfl))); (· exact rfl); clear hS; intro w1 b1 hS)
    | ((with_reducible apply l_alloc (ty := 44) (dst := some 2) hS (.agg #[.slice none 0 0, .slice none 0 0, .int .i64 0, .bool false]) [.slice none 0 0, .slice none 0 0, .int .i64 0, .bool false]); (· kernel_rfl); (· rfl); clear hS; intro w2 b2 hS)
    | ((with_reducible apply l_alloc (ty := 44) (dst := some 3) hS (.agg #[.slice none 0 0, .slice none 0 0, .int .i64 0, .bool false]) [.slice none 0 0, .slice none 0 0, .int .i64 0, .bool false]); (· kernel_rfl); (· rfl); clear hS; intro w3 b3 hS)
    | ((with_reducible apply l_alloc (ty := 102) (dst := some 5) hS (.agg #[.int .i64 0, .slice none 0 0]) [.int .i64 0, .slice none 0 0]); (· kernel_rfl); (· rfl); clear hS; intro w5 b5 hS)
    | ((with_reducible apply l_load hS); (· (first | exact Try.underlying3 | exact Try.underlying4 | exact Try.underlying22 | exact Try.underlying42)); (· exact rfl); (· exact rfl); (· (first | (apply Find.box; (· (repeat constructor)); rfl) | exact Find.mem (by assumption) | (apply Find.row; (· (repeat constructor)); assumption))))
    | ((with_reducible apply g_load hS); (· (first | exact Try.underlying3 | exact Try.underlying4 | exact Try.underlying22 | exact Try.underlying42)); (· exact rfl); (· (first | rfl | (go_simp; done))); (· exact rfl); (· (first | (apply Find.box; (· (repeat constructor)); rfl) | exact Find.mem (by assumption) | (apply Find.row; (· (repeat constructor)); assumption))))
    | ((with_reducible apply l_loads hS); (· (first | exact rowT44 | exact rowT102)); (· exact rfl); (· (first | (apply Finds.box; (· (repeat constructor)); (· (repeat constructor)); done) | (refine Finds.mem2 (by assumption) ?_; first | rfl | assumption | (simp; done)) | (apply Finds.row; (· (repeat constructor)); (· assumption); (· rfl)))))
    | ((with_reducible apply g_loads hS); (· (first | exact rowT44 | exact rowT102)); (· (first | rfl | (go_simp; done))); (· exact rfl); (· (first | (apply Finds.box; (· (repeat constructor)); (· (repeat constructor)); done) | (refine Finds.mem2 (by assumption) ?_; first | rfl | assumption | (simp; done)) | (apply Finds.row; (· (repeat constructor)); (· assumption); (· rfl)))))
    | ((with_reducible apply l_store hS); (· (first | exact rowT42)); (· exact rfl); (· (first | (go_simp; done) | (go_simp; with_reducible rfl))); (· (first | rfl | assumption | (simp [Value.oneCell']; done))); (· (repeat constructor)); (· (repeat constructor)); (· (repeat constructor)); clear hS; intro ws hS)
    | ((with_reducible apply l_storeR hS); (· (first | exact rowT42)); (· exact rfl); (· (first | (go_simp; done) | (go_simp; with_reducible rfl))); (· (first | rfl | assumption | (simp [Value.oneCell']; done))); (· (repeat constructor)); (· (first | assumption | omega | (simp; omega))); clear hS; intro ws hS)
    | ((with_reducible apply l_stores hS); (· (first | exact rowT44 | exact rowT102)); (· exact rfl); (· exact rfl); (· exact rfl); (· (first | assumption | (simp [Value.oneCell']; done))); (· (repeat constructor)); (· (repeat constructor)); (· (repeat constructor)); clear hS; intro ws hS))
        have HB : Hid ((k + 1) * 32 ≤ 140737488355328) := by have := HB3.out; simp only [wrL, Lay.by] at this; show _ ≤ _; omega
        have HL : Hid (d.wet[k].b.length * u8L.bytes ≤ 140737488355328) := by obtain ⟨_, _, e, _, _, h3, _⟩ := HV.out; exact h3
        replace hS := hS.drew
        refine startL (S := Sx _ [(b5, _)]) (by kernel_rfl) (hS.sx0.cons hS (by (repeat constructor))) (fun _ _ _ _ => trivial) (fun hHeld => ?_)
        focus (refine takeN 0 (v := ?_) rfl (by kernel_rfl) ?_ ?_; rotate_left; focus (intro w hSw; clear hSw; go_simp; try with_reducible rfl))
        try simp only [Act.put, nz1, nz2, nz3]
        focus (refine takeN 2 (v := ?_) rfl (by kernel_rfl) ?_ ?_; rotate_left; focus (intro w hSw; clear hSw; go_simp; try with_reducible rfl))
        try simp only [Act.put, nz1, nz2, nz3]
        refine takeN 3 rfl (by kernel_rfl) (yield_load rfl Try.underlying3 rfl rfl (by (first | (apply FindX.box; (· (repeat constructor)); rfl) | exact FindX.mem (by assumption)))) ?_
        try simp only [Act.put, nz1, nz2, nz3]
        focus (refine takeN 4 (v := ?_) rfl (by kernel_rfl) ?_ ?_; rotate_left; focus (intro w hSw; clear hSw; go_simp; try with_reducible rfl))
        try simp only [Act.put, nz1, nz2, nz3]
        refine takeN 5 rfl (by kernel_rfl) (yield_load rfl Try.underlying22 rfl rfl (by (first | (apply FindX.box; (· (repeat constructor)); rfl) | exact FindX.mem (by assumption)))) ?_
        try simp only [Act.put, nz1, nz2, nz3]
        refine wpAnyH_ready (rs := [1, 6]) (by kernel_rfl) (by simp) ?_
        refine consL 1 rfl (fun K hK => ?_) (consL 6 rfl (fun K hK => ?_) AllReadyH.nil)
        rotate_right
        focus
          (with_reducible apply s_append_nil u8L el_u8 hS (by decide)); (· exact rfl); (· exact rfl); (· exact HV.out); clear hS; intro w27 q27 c27 news27 hc27 hS
          refine hK.out _ _ (by first | exact (hS.sx0.cons hS (by (repeat constructor))) | exact Sx.le (by assumption) (hS.sx0.cons hS (by (repeat constructor)))) (fun hHeld => ?_)
          clear hK K
          try simp only [Act.put, nz1, nz2, nz3]
          focus (refine takeN 7 (v := ?_) rfl (by kernel_rfl) ?_ ?_; rotate_left; focus (intro w hSw; clear hSw; go_simp; try with_reducible rfl))
          try simp only [Act.put, nz1, nz2, nz3]
          refine wpAnyH_ready (rs := [1, 8]) (by kernel_rfl) (by simp) ?_
          refine consL 1 rfl (fun K hK => ?_) (consL 8 rfl (fun K hK => ?_) AllReadyH.nil)
          rotate_right
          focus
            (with_reducible apply s_lit el_wr hS (cs := [.int .i64 d.wet[k].pos, .slice q27 d.wet[k].b.length c27])); (· decide); (· decide); (· kernel_rfl); clear hS; intro w29 b29 hS
            refine hK.out _ _ (by first | exact (hS.sx0.cons hS (by (repeat constructor))) | exact Sx.le (by assumption) (hS.sx0.cons hS (by (repeat constructor)))) (fun hHeld => ?_)
            clear hK K
            try simp only [Act.put, nz1, nz2, nz3]
            refine wpAnyH_ready (rs := [1]) (by kernel_rfl) (by simp) ?_
            refine consL 1 rfl (fun K hK => ?_) AllReadyH.nil
            (with_reducible apply s_load hS); (· exact Try.underlying42); (· exact rfl); (· exact rfl); (· (first | (apply Find.box; (· (repeat constructor)); rfl) | exact Find.mem (by assumption) | (apply Find.row; (· (repeat constructor)); assumption)))
            refine hK.out _ _ (by first | exact (hS.sx0.cons hS (by (repeat constructor))) | exact Sx.le (by assumption) (hS.sx0.cons hS (by (repeat constructor)))) (fun hHeld => ?_)
            clear hK K
            try simp only [Act.put, nz1, nz2, nz3]
            refine wpAnyH_ready (rs := [9]) (by kernel_rfl) (by simp) ?_
            refine consL 9 rfl (fun K hK => ?_) AllReadyH.nil
            (with_reducible apply s_appendB el_wr hS (by decide)); (· exact rfl); (· (repeat constructor)); (· exact rfl); (· (repeat constructor)); (· rfl); (· simp [Value.oneCell']); (· exact HB.out); clear hS; intro w30 q30 c30 hS
            refine hK.out _ _ (by first | exact (hS.sx0.cons hS (by (repeat constructor))) | exact Sx.le (by assumption) (hS.sx0.cons hS (by (repeat constructor)))) (fun hHeld => ?_)
            clear hK K
            try simp only [Act.put, nz1, nz2, nz3]
            focus (refine takeN 10 (v := ?_) rfl (by kernel_rfl) ?_ ?_; rotate_left; focus (intro w hSw; clear hSw; go_simp; try with_reducible rfl))
            try simp only [Act.put, nz1, nz2, nz3]
            refine wpAnyH_ready (rs := [11]) (by kernel_rfl) (by simp) ?_
            refine consL 11 rfl (fun K hK => ?_) AllReadyH.nil
            (with_reducible apply s_store hS); (· exact rowT42); (· exact rfl); (· (first | (go_simp; done) | (go_simp; with_reducible rfl))); (· (first | rfl | assumption | (simp [Value.oneCell']; done))); (· (repeat constructor)); (· (repeat constructor)); (· (repeat constructor)); clear hS; intro ws hS
            refine hK.out _ _ (by first | exact (hS.sx0.cons hS (by (repeat constructor))) | exact Sx.le (by assumption) (hS.sx0.cons hS (by (repeat constructor)))) (fun hHeld => ?_)
            clear hK K
            try simp only [Act.put, nz1, nz2, nz3]
            refine wpAnyH_done (by kernel_rfl) ?_ _
            refine NoPanic.normal ?_
          rotate_right
          focus
            (with_reducible apply s_load hS); (· exact Try.underlying42); (· exact rfl); (· exact rfl); (· (first | (apply Find.box; (· (repeat constructor)); rfl) | exact Find.mem (by assumption) | (apply Find.row; (· (repeat constructor)); assumption)))
            refine hK.out _ _ (by first | exact (hS.sx0.cons hS (by (repeat constructor))) | exact Sx.le (by assumption) (hS.sx0.cons hS (by (repeat constructor)))) (fun hHeld => ?_)
            clear hK K
            try simp only [Act.put, nz1, nz2, nz3]
            refine wpAnyH_ready (rs := [8]) (by kernel_rfl) (by simp) ?_
            refine consL 8 rfl (fun K hK => ?_) AllReadyH.nil
            (with_reducible apply s_lit el_wr hS (cs := [.int .i64 d.wet[k].pos, .slice q27 d.wet[k].b.length c27])); (· decide); (· decide); (· kernel_rfl); clear hS; intro w29 b29 hS
            refine hK.out _ _ (by first | exact (hS.sx0.cons hS (by (repeat constructor))) | exact Sx.le (by assumption) (hS.sx0.cons hS (by (repeat constructor)))) (fun hHeld => ?_)
            clear hK K
            try simp only [Act.put, nz1, nz2, nz3]
            refine wpAnyH_ready (rs := [9]) (by kernel_rfl) (by simp) ?_
            refine consL 9 rfl (fun K hK => ?_) AllReadyH.nil
            (with_reducible apply s_appendB el_wr hS (by decide)); (· exact rfl); (· (repeat constructor)); (· exact rfl); (· (repeat constructor)); (· rfl); (· simp [Value.oneCell']); (· exact HB.out); clear hS; intro w30 q30 c30 hS
            refine hK.out _ _ (by first | exact (hS.sx0.cons hS (by (repeat constructor))) | exact Sx.le (by assumption) (hS.sx0.cons hS (by (repeat constructor)))) (fun hHeld => ?_)
            clear hK K
            try simp only [Act.put, nz1, nz2, nz3]
            focus (refine takeN 10 (v := ?_) rfl (by kernel_rfl) ?_ ?_; rotate_left; focus (intro w hSw; clear hSw; go_simp; try with_reducible rfl))
            try simp only [Act.put, nz1, nz2, nz3]
            refine wpAnyH_ready (rs := [11]) (by kernel_rfl) (by simp) ?_
            refine consL 11 rfl (fun K hK => ?_) AllReadyH.nil
            (with_reducible apply s_store hS); (· exact rowT42); (· exact rfl); (· (first | (go_simp; done) | (go_simp; with_reducible rfl))); (· (first | rfl | assumption | (simp [Value.oneCell']; done))); (· (repeat constructor)); (· (repeat constructor)); (· (repeat constructor)); clear hS; intro ws hS
            refine hK.out _ _ (by first | exact (hS.sx0.cons hS (by (repeat constructor))) | exact Sx.le (by assumption) (hS.sx0.cons hS (by (repeat constructor)))) (fun hHeld => ?_)
            clear hK K
            try simp only [Act.put, nz1, nz2, nz3]
            refine wpAnyH_done (by kernel_rfl) ?_ _
            refine NoPanic.normal ?_
        rotate_right
        focus
          (with_reducible apply s_load hS); (· exact Try.underlying42); (· exact rfl); (· exact rfl); (· (first | (apply Find.box; (· (repeat constructor)); rfl) | exact Find.mem (by assumption) | (apply Find.row; (· (repeat constructor)); assumption)))
          refine hK.out _ _ (by first | exact (hS.sx0.cons hS (by (repeat constructor))) | exact Sx.le (by assumption) (hS.sx0.cons hS (by (repeat constructor)))) (fun hHeld => ?_)
          clear hK K
          try simp only [Act.put, nz1, nz2, nz3]
          refine wpAnyH_ready (rs := [6]) (by kernel_rfl) (by simp) ?_
          refine consL 6 rfl (fun K hK => ?_) AllReadyH.nil
          (with_reducible apply s_append_nil u8L el_u8 hS (by decide)); (· exact rfl); (· exact rfl); (· exact HV.out); clear hS; intro w27 q27 c27 news27 hc27 hS
          refine hK.out _ _ (by first | exact (hS.sx0.cons hS (by (repeat constructor))) | exact Sx.le (by assumption) (hS.sx0.cons hS (by (repeat constructor)))) (fun hHeld => ?_)
          clear hK K
          try simp only [Act.put, nz1, nz2, nz3]
          focus (refine takeN 7 (v := ?_) rfl (by kernel_rfl) ?_ ?_; rotate_left; focus (intro w hSw; clear hSw; go_simp; try with_reducible rfl))
          try simp only [Act.put, nz1, nz2, nz3]
          refine wpAnyH_ready (rs := [8]) (by kernel_rfl) (by simp) ?_
          refine consL 8 rfl (fun K hK => ?_) AllReadyH.nil
          (with_reducible apply s_lit el_wr hS (cs := [.int .i64 d.wet[k].pos, .slice q27 d.wet[k].b.length c27])); (· decide); (· decide); (· kernel_rfl); clear hS; intro w29 b29 hS
          refine hK.out _ _ (by first | exact (hS.sx0.cons hS (by (repeat constructor))) | exact Sx.le (by assumption) (hS.sx0.cons hS (by (repeat constructor)))) (fun hHeld => ?_)
          clear hK K
          try simp only [Act.put, nz1, nz2, nz3]
          refine wpAnyH_ready (rs := [9]) (by kernel_rfl) (by simp) ?_
          refine consL 9 rfl (fun K hK => ?_) AllReadyH.nil
          (with_reducible apply s_appendB el_wr hS (by decide)); (· exact rfl); (· (repeat constructor)); (· exact rfl); (· (repeat constructor)); (· rfl); (· simp [Value.oneCell']); (· exact HB.out); clear hS; intro w30 q30 c30 hS
          refine hK.out _ _ (by first | exact (hS.sx0.cons hS (by (repeat constructor))) | exact Sx.le (by assumption) (hS.sx0.cons hS (by (repeat constructor)))) (fun hHeld => ?_)
          clear hK K
          try simp only [Act.put, nz1, nz2, nz3]
          focus (refine takeN 10 (v := ?_) rfl (by kernel_rfl) ?_ ?_; rotate_left; focus (intro w hSw; clear hSw; go_simp; try with_reducible rfl))
          try simp only [Act.put, nz1, nz2, nz3]
          refine wpAnyH_ready (rs := [11]) (by kernel_rfl) (by simp) ?_
          refine consL 11 rfl (fun K hK => ?_) AllReadyH.nil
          (with_reducible apply s_store hS); (· exact rowT42); (· exact rfl); (· (first | (go_simp; done) | (go_simp; with_reducible rfl))); (· (first | rfl | assumption | (simp [Value.oneCell']; done))); (· (repeat constructor)); (· (repeat constructor)); (· (repeat constructor)); clear hS; intro ws hS
          refine hK.out _ _ (by first | exact (hS.sx0.cons hS (by (repeat constructor))) | exact Sx.le (by assumption) (hS.sx0.cons hS (by (repeat constructor)))) (fun hHeld => ?_)
          clear hK K
          try simp only [Act.put, nz1, nz2, nz3]
          refine wpAnyH_done (by kernel_rfl) ?_ _
          refine NoPanic.normal ?_
        all_goals
          go_wp2_with (first 
    | ((with_reducible apply l_box (ty := 44) (y := (.tmp 0)) hS); (· (first | (go_simp; done) | (go_simp; with_reducible rfl))); (· exact rfl); clear hS; intro w1 b1 hS)
    | ((with_reducible apply l_alloc (ty := 44) (dst := some 2) hS (.agg #[.slice none 0 0, .slice none 0 0, .int .i64 0, .bool false]) [.slice none 0 0, .slice none 0 0, .int .i64 0, .bool false]); (· kernel_rfl); (· rfl); clear hS; intro w2 b2 hS)
    | ((with_reducible apply l_alloc (ty := 44) (dst := some 3) hS (.agg #[.slice none 0 0, .slice none 0 0, .int .i64 0, .bool false]) [.slice none 0 0, .slice none 0 0, .int .i64 0, .bool false]); (· kernel_rfl); (· rfl); clear hS; intro w3 b3 hS)
    | ((with_reducible apply l_alloc (ty := 102) (dst := some 5) hS (.agg #[.int .i64 0, .slice none 0 0]) [.int .i64 0, .slice none 0 0]); (· kernel_rfl); (· rfl); clear hS; intro w5 b5 hS)
    | ((with_reducible apply l_load hS); (· (first | exact Try.underlying3 | exact Try.underlying4 | exact Try.underlying22 | exact Try.underlying42)); (· exact rfl); (· exact rfl); (· (first | (apply Find.box; (· (repeat constructor)); rfl) | exact Find.mem (by assumption) | (apply Find.row; (· (repeat constructor)); assumption))))
    | ((with_reducible apply g_load hS); (· (first | exact Try.underlying3 | exact Try.underlying4 | exact Try.underlying22 | exact Try.underlying42)); (· exact rfl); (· (first | rfl | (go_simp; done))); (· exact rfl); (· (first | (apply Find.box; (· (repeat constructor)); rfl) | exact Find.mem (by assumption) | (apply Find.row; (· (repeat constructor)); assumption))))
    | ((with_reducible apply l_loads hS); (· (first | exact rowT44 | exact rowT102)); (· exact rfl); (· (first | (apply Finds.box; (· (repeat constructor)); (· (repeat constructor)); done) | (refine Finds.mem2 (by assumption) ?_; first | rfl | assumption | (simp; done)) | (apply Finds.row; (· (repeat constructor)); (· assumption); (· rfl)))))
    | ((with_reducible apply g_loads hS); (· (first | exact rowT44 | exact rowT102)); (· (first | rfl | (go_simp; done))); (· exact rfl); (· (first | (apply Finds.box; (· (repeat constructor)); (· (repeat constructor)); done) | (refine Finds.mem2 (by assumption) ?_; first | rfl | assumption | (simp; done)) | (apply Finds.row; (· (repeat constructor)); (· assumption); (· rfl)))))
    | ((with_reducible apply l_store hS); (· (first | exact rowT42)); (· exact rfl); (· (first | (go_simp; done) | (go_simp; with_reducible rfl))); (· (first | rfl | assumption | (simp [Value.oneCell']; done))); (· (repeat constructor)); (· (repeat constructor)); (· (repeat constructor)); clear hS; intro ws hS)
    | ((with_reducible apply l_storeR hS); (· (first | exact rowT42)); (· exact rfl); (· (first | (go_simp; done) | (go_simp; with_reducible rfl))); (· (first | rfl | assumption | (simp [Value.oneCell']; done))); (· (repeat constructor)); (· (first | assumption | omega | (simp; omega))); clear hS; intro ws hS)
    | ((with_reducible apply l_stores hS); (· (first | exact rowT44 | exact rowT102)); (· exact rfl); (· exact rfl); (· exact rfl); (· (first | assumption | (simp [Value.oneCell']; done))); (· (repeat constructor)); (· (repeat constructor)); (· (repeat constructor)); clear hS; intro ws hS))
          go_roundw
          case rel =>
            replace hS := (hS.forget (x := .box b5 _) (by (repeat constructor))).forget (x := .box b29 _) (by (repeat constructor))
            obtain ⟨m2, hS2, hle2, hrd⟩ := (hS.front (x := .row 5 1 (.slice q27 _ _) _ _) (by (repeat constructor))).settleRow (L := u8L) 0 rfl hc27 HL.out
            replace hS2 := ((hS2.front (x := .box b3 _) (by (repeat constructor))).front (x := .row 5 1 _ _ _) (by (repeat constructor))).front (x := .row 102 2 _ _ _) (by (repeat constructor))
            exact ⟨k + 1, q30, c30, _, m2, hlt, by go_num, hle.trans hle2, by rw [List.take_succ_eq_append_getElem hlt]; exact (HG.out.mono hle2).snoc (wrL_mk HP.out hrd), hS2⟩
          case measure => simp [intOf]; omega
      · obtain rfl : k = d.wet.length := by omega
        have HG := Lib.hid hcells
        clear hcells
        go_wp2_with (first 
    | ((with_reducible apply l_box (ty := 44) (y := (.tmp 0)) hS); (· (first | (go_simp; done) | (go_simp; with_reducible rfl))); (· exact rfl); clear hS; intro w1 b1 hS)
    | ((with_reducible apply l_alloc (ty := 44) (dst := some 2) hS (.agg #[.slice none 0 0, .slice none 0 0, .int .i64 0, .bool false]) [.slice none 0 0, .slice none 0 0, .int .i64 0, .bool false]); (· kernel_rfl); (· rfl); clear hS; intro w2 b2 hS)
    | ((with_reducible apply l_alloc (ty := 44) (dst := some 3) hS (.agg #[.slice none 0 0, .slice none 0 0, .int .i64 0, .bool false]) [.slice none 0 0, .slice none 0 0, .int .i64 0, .bool false]); (· kernel_rfl); (· rfl); clear hS; intro w3 b3 hS)
    | ((with_reducible apply l_alloc (ty := 102) (dst := some 5) hS (.agg #[.int .i64 0, .slice none 0 0]) [.int .i64 0, .slice none 0 0]); (· kernel_rfl); (· rfl); clear hS; intro w5 b5 hS)
    | ((with_reducible apply l_load hS); (· (first | exact Try.underlying3 | exact Try.underlying4 | exact Try.underlying22 | exact Try.underlying42)); (· exact rfl); (· exact rfl); (· (first | (apply Find.box; (· (repeat constructor)); rfl) | exact Find.mem (by assumption) | (apply Find.row; (· (repeat constructor)); assumption))))
    | ((with_reducible apply g_load hS); (· (first | exact Try.underlying3 | exact Try.underlying4 | exact Try.underlying22 | exact Try.underlying42)); (· exact rfl); (· (first | rfl | (go_simp; done))); (· exact rfl); (· (first | (apply Find.box; (· (repeat constructor)); rfl) | exact Find.mem (by assumption) | (apply Find.row; (· (repeat constructor)); assumption))))
    | ((with_reducible apply l_loads hS); (· (first | exact rowT44 | exact rowT102)); (· exact rfl); (· (first | (apply Finds.box; (· (repeat constructor)); (· (repeat constructor)); done) | (refine Finds.mem2 (by assumption) ?_; first | rfl | assumption | (simp; done)) | (apply Finds.row; (· (repeat constructor)); (· assumption); (· rfl)))))
    | ((with_reducible apply g_loads hS); (· (first | exact rowT44 | exact rowT102)); (· (first | rfl | (go_simp; done))); (· exact rfl); (· (first | (apply Finds.box; (· (repeat constructor)); (· (repeat constructor)); done) | (refine Finds.mem2 (by assumption) ?_; first | rfl | assumption | (simp; done)) | (apply Finds.row; (· (repeat constructor)); (· assumption); (· rfl)))))
    | ((with_reducible apply l_store hS); (· (first | exact rowT42)); (· exact rfl); (· (first | (go_simp; done) | (go_simp; with_reducible rfl))); (· (first | rfl | assumption | (simp [Value.oneCell']; done))); (· (repeat constructor)); (· (repeat constructor)); (· (repeat constructor)); clear hS; intro ws hS)
    | ((with_reducible apply l_storeR hS); (· (first | exact rowT42)); (· exact rfl); (· (first | (go_simp; done) | (go_simp; with_reducible rfl))); (· (first | rfl | assumption | (simp [Value.oneCell']; done))); (· (repeat constructor)); (· (first | assumption | omega | (simp; omega))); clear hS; intro ws hS)
    | ((with_reducible apply l_stores hS); (· (first | exact rowT44 | exact rowT102)); (· exact rfl); (· exact rfl); (· exact rfl); (· (first | assumption | (simp [Value.oneCell']; done))); (· (repeat constructor)); (· (repeat constructor)); (· (repeat constructor)); clear hS; intro ws hS))
        (try simp only [Exit.inBlock, Exit.then])
        refine ret_cell (n := 4) rfl rfl hS (by (repeat constructor)) (by rfl) dkRow rfl ?_
        have hc := HG.out
        rw [List.take_length] at hc
        replace hS := ((hS.forget (x := .box b3 _) (by (repeat constructor))).forget (x := .box b2 _) (by (repeat constructor))).forget (x := .box b1 _) (by (repeat constructor))
        exact ⟨_, _, _, m', rfl, hc, hS.front (x := .row 5 1 _ _ _) (by (repeat constructor))⟩
end Go.Proofs.Ytnmgiiaejpaeeaa
/- Contracts of the disk's reference: Check, SameBytes, New. -/
namespace Go.Proofs.Ytnmgiiaejpaeeaa
set_option linter.unusedVariables false
set_option linter.unusedSimpArgs false
open Go.RowKit
theorem chk1 {d : Dk} (h : ¬ checkOK d) : Value.int .i64 1 = .int .i64 (checkE d) := by unfold checkE; rw [if_neg h]
theorem chk0 {d : Dk} (h : checkOK d) : Value.int .i64 0 = .int .i64 (checkE d) := by unfold checkE; rw [if_pos h]
set_option maxRecDepth 100000 in
set_option maxHeartbeats 4000000 in
theorem rcheck_c (m : Mem) (w : World) (hm : m.In w) (cs : List Value) (d : Dk) (h : dkL.rd m cs d) :
    Calls Try.prog 51 #[.agg cs.toArray] w (Ret w m fun v _ => v = .int .i64 (checkE d)) := by
  obtain ⟨v0, v1, rfl, h0, h1, _⟩ := dkL_open h
  obtain ⟨p0, c0, rfl, a1, a2, _⟩ := Lay.list_open h0
  obtain ⟨p1, c1, rfl, b1, b2, b3, b4⟩ := Lay.list_open h1
  have hS := St.start hm
  simp only [maxLen] at a2 b2
  have hn : (d.dry.length : Int) / 32 = ((d.dry.length / 32 : Nat) : Int) := by omega
  have HN := Lib.hid hn
  clear h h0 h1 b3 hn
  go_enter Try.func51, Try.ntmps51
  go_wp2_with (first 
    | ((with_reducible apply l_box (ty := 44) (y := (.tmp 0)) hS); (· (first | (go_simp; done) | (go_simp; with_reducible rfl))); (· exact rfl); clear hS; intro w1 b1 hS)
    | ((with_reducible apply l_alloc (ty := 102) (dst := some 5) hS (.agg #[.int .i64 0, .slice none 0 0]) [.int .i64 0, .slice none 0 0]); (· kernel_rfl); (· rfl); clear hS; intro w5 b5 hS)
    | ((with_reducible apply l_load hS); (· (first | exact Try.underlying3 | exact Try.underlying22 | exact Try.underlying42)); (· exact rfl); (· exact rfl); (· (first | (apply Find.box; (· (repeat constructor)); rfl) | exact Find.mem (by assumption) | (apply Find.row; (· (repeat constructor)); assumption))))
    | ((with_reducible apply g_load hS); (· (first | exact Try.underlying3 | exact Try.underlying22 | exact Try.underlying42)); (· exact rfl); (· (first | rfl | (go_simp; done))); (· exact rfl); (· (first | (apply Find.box; (· (repeat constructor)); rfl) | exact Find.mem (by assumption) | (apply Find.row; (· (repeat constructor)); assumption))))
    | ((with_reducible apply l_loads hS); (· (first | exact rowT102)); (· exact rfl); (· (first | (apply Finds.box; (· (repeat constructor)); (· (repeat constructor)); done) | (refine Finds.mem2 (by assumption) ?_; first | rfl | assumption | (simp; done)) | (apply Finds.row; (· (repeat constructor)); (· assumption); (· rfl)))))
    | ((with_reducible apply g_loads hS); (· (first | exact rowT102)); (· (first | rfl | (go_simp; done))); (· exact rfl); (· (first | (apply Finds.box; (· (repeat constructor)); (· (repeat constructor)); done) | (refine Finds.mem2 (by assumption) ?_; first | rfl | assumption | (simp; done)) | (apply Finds.row; (· (repeat constructor)); (· assumption); (· rfl)))))
    | ((with_reducible apply l_stores hS); (· (first | exact rowT102)); (· exact rfl); (· exact rfl); (· exact rfl); (· (first | assumption | (simp [Value.oneCell']; done))); (· (repeat constructor)); (· (repeat constructor)); (· (repeat constructor)); clear hS; intro ws hS))
  all_goals first
    | (go_ret; exact ⟨_, m, rfl, chk1 (by unfold checkOK; omega), hS.done⟩)
    | skip
  go_loopw [42] (fun i wr => ∃ k : Nat, k ≤ d.wet.length ∧ i = .int .i64 k ∧ Hid ((d.wet.take k).any (oddD d) = false) ∧ St [] w m wr [.box b1 [.slice p0 d.dry.length c0, .slice p1 d.wet.length c1, .int .i64 d.fuse, .bool d.dead]] m) (fun i _ => d.wet.length - (intOf i).toNat)
  case atStart => exact ⟨0, Nat.zero_le _, rfl, by simp [Hid], hS⟩
  case round =>
    clear hS
    obtain ⟨k, hk, rfl, hall, hS⟩ := hrel
    by_cases hlt : k < d.wet.length
    · obtain ⟨b, o, cs, rfl, hx, hg⟩ := b4.get k hlt
      obtain ⟨v, rfl, _, hv⟩ := wrL_open hx
      obtain ⟨q, c, rfl, x1, x2, x3, x4⟩ := Lay.list_open hv
      have hg' : ∀ j v, [.int .i64 d.wet[k].pos, .slice q d.wet[k].b.length c][j]? = some v → m ⟨b, o + k * 2 + j, none⟩ = some v := hg
      have HA : Hid ((d.wet.take (k + 1)).any (oddD d) = oddD d d.wet[k]) := by
        have := hall.out
        show _ = _
        rw [List.take_succ_eq_append_getElem hlt, List.any_append, this]; simp
      have HM : Hid (oddD d d.wet[k] = true → ¬ checkOK d) := fun h hc => by
        have := hc.2.2.2.2.1
        rw [List.any_eq_false] at this
        exact this _ (List.getElem_mem hlt) h
      simp only [maxLen] at x2
      clear hg hx hv hall x3
      go_wp2_with (first 
    | ((with_reducible apply l_box (ty := 44) (y := (.tmp 0)) hS); (· (first | (go_simp; done) | (go_simp; with_reducible rfl))); (· exact rfl); clear hS; intro w1 b1 hS)
    | ((with_reducible apply l_alloc (ty := 102) (dst := some 5) hS (.agg #[.int .i64 0, .slice none 0 0]) [.int .i64 0, .slice none 0 0]); (· kernel_rfl); (· rfl); clear hS; intro w5 b5 hS)
    | ((with_reducible apply l_load hS); (· (first | exact Try.underlying3 | exact Try.underlying22 | exact Try.underlying42)); (· exact rfl); (· exact rfl); (· (first | (apply Find.box; (· (repeat constructor)); rfl) | exact Find.mem (by assumption) | (apply Find.row; (· (repeat constructor)); assumption))))
    | ((with_reducible apply g_load hS); (· (first | exact Try.underlying3 | exact Try.underlying22 | exact Try.underlying42)); (· exact rfl); (· (first | rfl | (go_simp; done))); (· exact rfl); (· (first | (apply Find.box; (· (repeat constructor)); rfl) | exact Find.mem (by assumption) | (apply Find.row; (· (repeat constructor)); assumption))))
    | ((with_reducible apply l_loads hS); (· (first | exact rowT102)); (· exact rfl); (· (first | (apply Finds.box; (· (repeat constructor)); (· (repeat constructor)); done) | (refine Finds.mem2 (by assumption) ?_; first | rfl | assumption | (simp; done)) | (apply Finds.row; (· (repeat constructor)); (· assumption); (· rfl)))))
    | ((with_reducible apply g_loads hS); (· (first | exact rowT102)); (· (first | rfl | (go_simp; done))); (· exact rfl); (· (first | (apply Finds.box; (· (repeat constructor)); (· (repeat constructor)); done) | (refine Finds.mem2 (by assumption) ?_; first | rfl | assumption | (simp; done)) | (apply Finds.row; (· (repeat constructor)); (· assumption); (· rfl)))))
    | ((with_reducible apply l_stores hS); (· (first | exact rowT102)); (· exact rfl); (· exact rfl); (· exact rfl); (· (first | assumption | (simp [Value.oneCell']; done))); (· (repeat constructor)); (· (repeat constructor)); (· (repeat constructor)); clear hS; intro ws hS))
      all_goals first
        | (go_ret; exact ⟨_, m, rfl, chk1 (HM.out (by (try simp only [bne_iff_ne, ne_eq, bne_eq_false_iff_eq] at *); simp [oddD, farD]; omega)), hS.done⟩)
        | (go_roundw
           case rel => exact ⟨k + 1, hlt, by go_num, HA.out.trans (by (try simp only [bne_iff_ne, ne_eq, bne_eq_false_iff_eq] at *); simp [oddD, farD]; omega), hS.drop _ (by simp)⟩
           case measure => simp [intOf]; omega)
    · obtain rfl : k = d.wet.length := by omega
      go_wp2_with (first 
    | ((with_reducible apply l_box (ty := 44) (y := (.tmp 0)) hS); (· (first | (go_simp; done) | (go_simp; with_reducible rfl))); (· exact rfl); clear hS; intro w1 b1 hS)
    | ((with_reducible apply l_alloc (ty := 102) (dst := some 5) hS (.agg #[.int .i64 0, .slice none 0 0]) [.int .i64 0, .slice none 0 0]); (· kernel_rfl); (· rfl); clear hS; intro w5 b5 hS)
    | ((with_reducible apply l_load hS); (· (first | exact Try.underlying3 | exact Try.underlying22 | exact Try.underlying42)); (· exact rfl); (· exact rfl); (· (first | (apply Find.box; (· (repeat constructor)); rfl) | exact Find.mem (by assumption) | (apply Find.row; (· (repeat constructor)); assumption))))
    | ((with_reducible apply g_load hS); (· (first | exact Try.underlying3 | exact Try.underlying22 | exact Try.underlying42)); (· exact rfl); (· (first | rfl | (go_simp; done))); (· exact rfl); (· (first | (apply Find.box; (· (repeat constructor)); rfl) | exact Find.mem (by assumption) | (apply Find.row; (· (repeat constructor)); assumption))))
    | ((with_reducible apply l_loads hS); (· (first | exact rowT102)); (· exact rfl); (· (first | (apply Finds.box; (· (repeat constructor)); (· (repeat constructor)); done) | (refine Finds.mem2 (by assumption) ?_; first | rfl | assumption | (simp; done)) | (apply Finds.row; (· (repeat constructor)); (· assumption); (· rfl)))))
    | ((with_reducible apply g_loads hS); (· (first | exact rowT102)); (· (first | rfl | (go_simp; done))); (· exact rfl); (· (first | (apply Finds.box; (· (repeat constructor)); (· (repeat constructor)); done) | (refine Finds.mem2 (by assumption) ?_; first | rfl | assumption | (simp; done)) | (apply Finds.row; (· (repeat constructor)); (· assumption); (· rfl)))))
    | ((with_reducible apply l_stores hS); (· (first | exact rowT102)); (· exact rfl); (· exact rfl); (· exact rfl); (· (first | assumption | (simp [Value.oneCell']; done))); (· (repeat constructor)); (· (repeat constructor)); (· (repeat constructor)); clear hS; intro ws hS))
      go_ret
      have := hall.out
      rw [List.take_length] at this
      exact ⟨_, m, rfl, chk0 ⟨by omega, by omega, by omega, by omega, this, by omega, by omega⟩, hS.done⟩
end Go.Proofs.Ytnmgiiaejpaeeaa
/- Contracts of the disk's reference: burn, Lit. -/
namespace Go.Proofs.Ytnmgiiaejpaeeaa
set_option linter.unusedVariables false
set_option linter.unusedSimpArgs false
open Go.RowKit
/-- Two rows of the call's own are let be: a disk. -/
theorem own_rd {w0 w : World} {m0 m : Mem} {es : List Ent} {vd vq : Value} {cells : List Value} {d : Dk} (hS : St [] w0 m0 w (.row 5 1 vd d.dry.length (d.dry.map (.int .u8)) :: .row 102 2 vq d.wet.length cells :: es) m)
    (hd : ∀ x ∈ d.dry, InK .u8 x) (hc : CellsOf wrL m cells d.wet) (h1 : d.dry.length ≤ 140737488355328) (h2 : d.wet.length * 32 ≤ 140737488355328) :
    ∃ m', St [] w0 m0 w es m' ∧ m.Le m' ∧ bytesL.rd m' [vd] d.dry ∧ wrL.list.rd m' [vq] d.wet := by
  have hcd : CellsOf u8L m (d.dry.map (.int .u8)) d.dry := by
    refine ⟨d.dry.map fun x => [.int .u8 x], ?_, by simp, fun i cs x h3 h4 => ?_⟩
    · induction d.dry with
      | nil => rfl
      | cons x xs ih => simp [ih]
    · simp [List.getElem?_map, h4] at h3
      subst h3
      exact ⟨rfl, hd _ (List.mem_of_getElem? h4)⟩
  obtain ⟨m1, k1, k2, k3⟩ := hS.settleRow (L := u8L) 0 rfl hcd (by simpa [Lay.int, kBytes] using h1)
  obtain ⟨m2, l1, l2, l3⟩ := k1.settleRow (L := wrL) 0 rfl (hc.mono k2) (by simpa [wrL, Lay.by] using h2)
  exact ⟨m2, l1, k2.trans l2, bytesL.mono l2 k3, l3⟩
def burnD (d : Dk) : Dk := if d.fuse = 0 then { d with dead := true } else if 0 < d.fuse then { d with fuse := d.fuse - 1 } else d
/-- A disk of its own, and a bool, are handed back. -/
def OwnDB (w : World) (m : Mem) (d : Dk) (b : Bool) (e : Ending) (w' : World) : Prop :=
  ∃ vd vq cells m', e = .returned (.tuple #[.agg #[vd, vq, .int .i64 d.fuse, .bool d.dead], .bool b]) ∧ CellsOf wrL m' cells d.wet ∧ St [] w m w' [.row 5 1 vd d.dry.length (d.dry.map (.int .u8)), .row 102 2 vq d.wet.length cells] m'
set_option maxRecDepth 100000 in
set_option maxHeartbeats 4000000 in
theorem burn_c (m : Mem) (w : World) (hm : m.In w) (cs : List Value) (d : Dk) (h : dkL.rd m cs d) (hf : d.fuse ≤ 1073741824) (hg : -1 ≤ d.fuse) :
    Calls Try.prog 83 #[.agg cs.toArray] w (OwnDB w m (burnD d) (decide (d.fuse ≠ 0))) := by
  have hh := h
  obtain ⟨v0, v1, rfl, h0, h1, _⟩ := dkL_open h
  obtain ⟨p0, c0, rfl, a1, a2, _⟩ := Lay.list_open h0
  obtain ⟨p1, c1, rfl, b1, b2, b3, b4⟩ := Lay.list_open h1
  have hS := St.start hm
  have HH := Lib.hid hh
  clear h h0 h1 b3 hh a1 a2 b1 b2
  go_enter Try.func83, Try.ntmps83
  go_wp2_with (first 
    | ((with_reducible apply l_box (ty := 44) (y := (.tmp 0)) hS); (· (first | (go_simp; done) | (go_simp; with_reducible rfl))); (· exact rfl); clear hS; intro w1 b1 hS)
    | ((with_reducible apply l_alloc (ty := 44) (dst := some 2) hS (.agg #[.slice none 0 0, .slice none 0 0, .int .i64 0, .bool false]) [.slice none 0 0, .slice none 0 0, .int .i64 0, .bool false]); (· kernel_rfl); (· rfl); clear hS; intro w2 b2 hS)
    | ((with_reducible apply l_load hS); (· (first | exact Try.underlying3)); (· exact rfl); (· exact rfl); (· (first | (apply Find.box; (· (repeat constructor)); rfl) | exact Find.mem (by assumption) | (apply Find.row; (· (repeat constructor)); assumption))))
    | ((with_reducible apply g_load hS); (· (first | exact Try.underlying3)); (· exact rfl); (· (first | rfl | (go_simp; done))); (· exact rfl); (· (first | (apply Find.box; (· (repeat constructor)); rfl) | exact Find.mem (by assumption) | (apply Find.row; (· (repeat constructor)); assumption))))
    | ((with_reducible apply l_loads hS); (· (first | exact rowT44)); (· exact rfl); (· (first | (apply Finds.box; (· (repeat constructor)); (· (repeat constructor)); done) | (refine Finds.mem2 (by assumption) ?_; first | rfl | assumption | (simp; done)) | (apply Finds.row; (· (repeat constructor)); (· assumption); (· rfl)))))
    | ((with_reducible apply g_loads hS); (· (first | exact rowT44)); (· (first | rfl | (go_simp; done))); (· exact rfl); (· (first | (apply Finds.box; (· (repeat constructor)); (· (repeat constructor)); done) | (refine Finds.mem2 (by assumption) ?_; first | rfl | assumption | (simp; done)) | (apply Finds.row; (· (repeat constructor)); (· assumption); (· rfl)))))
    | ((with_reducible apply l_store hS); (· (first | exact rowT3 | exact rowT4)); (· exact rfl); (· (first | (go_simp; done) | (go_simp; with_reducible rfl))); (· (first | rfl | assumption | (simp [Value.oneCell']; done))); (· (repeat constructor)); (· (repeat constructor)); (· (repeat constructor)); clear hS; intro ws hS)
    | ((with_reducible apply l_storeR hS); (· (first | exact rowT3 | exact rowT4)); (· exact rfl); (· (first | (go_simp; done) | (go_simp; with_reducible rfl))); (· (first | rfl | assumption | (simp [Value.oneCell']; done))); (· (repeat constructor)); (· (first | assumption | omega | (simp; omega))); clear hS; intro ws hS)
    | ((with_reducible apply l_stores hS); (· (first | exact rowT44)); (· exact rfl); (· exact rfl); (· exact rfl); (· (first | assumption | (simp [Value.oneCell']; done))); (· (repeat constructor)); (· (repeat constructor)); (· (repeat constructor)); clear hS; intro ws hS)
    | (go_at_call 42; refine (copy_c _ _ hS.inw _ _ HH.out).mono ?_; rintro e' w5 ⟨vd, vq, cells, m5, rfl, hc, hk⟩; replace hS := hS.callOwn hk; simp only [List.cons_append, List.nil_append] at hS; obtain ⟨qd, cd, rfl⟩ := row_form (hS.row 0 rfl); obtain ⟨qq, cq, rfl⟩ := row_form (hS.row 1 rfl); have HC := Lib.hid hc; clear hc hk))
  all_goals
    refine ret_cell_tmp (n := 4) rfl rfl hS (by (repeat constructor)) (by rfl) dkRow rfl ?_
    replace hS := (hS.forget (x := .box b2 _) (by (repeat constructor))).forget (x := .box b1 _) (by (repeat constructor))
  · have h0 : d.fuse = 0 := by simp_all
    have e : burnD d = { d with dead := true } := if_pos h0
    rw [e]
    exact ⟨_, _, _, m5, by simp [h0], HC.out, hS⟩
  · have h0 : d.fuse ≠ 0 := by omega
    have e : burnD d = { d with fuse := d.fuse - 1 } := by unfold burnD; rw [if_neg h0, if_pos (by omega)]
    rw [e]
    exact ⟨_, _, _, m5, by simp [h0], HC.out, hS⟩
  · have h0 : d.fuse ≠ 0 := by intro h; simp [h] at *
    have e : burnD d = d := by unfold burnD; rw [if_neg h0, if_neg (by omega)]
    rw [e]
    exact ⟨_, _, _, m5, by simp [h0], HC.out, hS⟩
/-- A disk, and an error, are handed back. -/
def RetDE (w : World) (m : Mem) (d : Dk) (e : Int) : Ending → World → Prop := Ret w m fun v m' => ∃ cs, v = .tuple #[.agg cs.toArray, .int .i64 e] ∧ dkL.rd m' cs d
theorem dk0_rd (m : Mem) : dkL.rd m [.slice none 0 0, .slice none 0 0, .int .i64 0, .bool false] dk0 := dkL_mk (d := dk0) (Lay.nil_rd _ _) (Lay.nil_rd _ _) (by simp [InK, dk0, IntKind.min, IntKind.max, IntKind.signed, IntKind.bits])
theorem ok_big {d : Dk} (h : checkOK d) : d.dry.length ≤ 140737488355328 ∧ d.wet.length * 32 ≤ 140737488355328 := by obtain ⟨h1, h2, h3, h4, _⟩ := h; omega
theorem inK64 {x : Int} (h1 : -9223372036854775808 ≤ x) (h2 : x ≤ 9223372036854775807) : InK .i64 x := by simp [InK, IntKind.min, IntKind.max, IntKind.signed, IntKind.bits]; omega
theorem close_err {w w' : World} {m m' : Mem} {es : List Ent} {D : Dk} {e E : Int} (hE : E = e) (hD : D = dk0) (hS : St [] w m w' es m') : RetDE w m D E (.returned (.tuple #[.agg ([.slice none 0 0, .slice none 0 0, .int .i64 0, .bool false] : List Value).toArray, .int .i64 e])) w' := by
  subst hE hD
  exact ⟨_, m', rfl, ⟨_, rfl, dk0_rd m'⟩, hS.done⟩
theorem close_own {w w' : World} {m m' : Mem} {es : List Ent} {vd vq : Value} {cells : List Value} {D : Dk} {e E f : Int} {b : Bool} (hE : E = e) (hf : D.fuse = f) (hb : D.dead = b) (hk : InK .i64 f)
    (hS : St [] w m w' (.row 5 1 vd D.dry.length (D.dry.map (.int .u8)) :: .row 102 2 vq D.wet.length cells :: es) m')
    (hd : ∀ x ∈ D.dry, InK .u8 x) (hc : CellsOf wrL m' cells D.wet) (h1 : D.dry.length ≤ 140737488355328) (h2 : D.wet.length * 32 ≤ 140737488355328) :
    RetDE w m D E (.returned (.tuple #[.agg ([vd, vq, .int .i64 f, .bool b] : List Value).toArray, .int .i64 e])) w' := by
  subst hE hf hb
  obtain ⟨m2, k1, k2, k3, k4⟩ := own_rd hS hd hc h1 h2
  exact ⟨_, m2, rfl, ⟨_, rfl, dkL_mk k3 k4 hk⟩, k1.done⟩
theorem alive_of {d : Dk} {b : Bool} (hb : d.dead = b) : (checkOK d → aliveE d = if b then 11 else 0) ∧ (¬ checkOK d → aliveE d = 1) := by
  subst hb
  exact ⟨fun h => by unfold aliveE; rw [if_pos h], fun h => by unfold aliveE; rw [if_neg h]⟩
set_option maxRecDepth 100000 in
set_option maxHeartbeats 4000000 in
theorem rlit_c (m : Mem) (w : World) (hm : m.In w) (cs : List Value) (d : Dk) (h : dkL.rd m cs d) (f : Int) :
    Calls Try.prog 47 #[.agg cs.toArray, .int .i64 f] w (RetDE w m (litD d f) (litE d f)) := by
  have hh := h
  obtain ⟨v0, v1, rfl, h0, h1, _⟩ := dkL_open h
  obtain ⟨p0, c0, rfl, a1, a2, _, a4⟩ := Lay.list_open h0
  obtain ⟨p1, c1, rfl, b1, b2, b3, b4⟩ := Lay.list_open h1
  have hS := St.start hm
  have HH := Lib.hid hh
  have HR := Lib.hid a4.inK
  clear h h0 h1 b3 hh a1 a2 a4 b1 b2 b4
  cases hdd : d.dead
  all_goals
    rw [hdd] at HH
    have HD := Lib.hid hdd
    clear hdd
    rcases checkE_cases d with ⟨hE, hok⟩ | ⟨hE, hok⟩
    all_goals
      have HE := Lib.hid hE
      have HK := Lib.hid hok
      have HA := Lib.hid (show aliveE d = _ by first | exact (alive_of HD.out).1 hok | exact (alive_of HD.out).2 hok)
      clear hE hok
      go_enter Try.func47, Try.ntmps47
      go_wp2_with (first 
    | ((with_reducible apply l_box (ty := 44) (y := (.tmp 0)) hS); (· (first | (go_simp; done) | (go_simp; with_reducible rfl))); (· exact rfl); clear hS; intro w2 b2 hS)
    | ((with_reducible apply l_alloc (ty := 44) (dst := some 4) hS (.agg #[.slice none 0 0, .slice none 0 0, .int .i64 0, .bool false]) [.slice none 0 0, .slice none 0 0, .int .i64 0, .bool false]); (· kernel_rfl); (· rfl); clear hS; intro w4 b4 hS)
    | ((with_reducible apply l_load hS); (· (first | exact Try.underlying4)); (· exact rfl); (· exact rfl); (· (first | (apply Find.box; (· (repeat constructor)); rfl) | exact Find.mem (by assumption) | (apply Find.row; (· (repeat constructor)); assumption))))
    | ((with_reducible apply g_load hS); (· (first | exact Try.underlying4)); (· exact rfl); (· (first | rfl | (go_simp; done))); (· exact rfl); (· (first | (apply Find.box; (· (repeat constructor)); rfl) | exact Find.mem (by assumption) | (apply Find.row; (· (repeat constructor)); assumption))))
    | ((with_reducible apply l_loads hS); (· (first | exact rowT44)); (· exact rfl); (· (first | (apply Finds.box; (· (repeat constructor)); (· (repeat constructor)); done) | (refine Finds.mem2 (by assumption) ?_; first | rfl | assumption | (simp; done)) | (apply Finds.row; (· (repeat constructor)); (· assumption); (· rfl)))))
    | ((with_reducible apply g_loads hS); (· (first | exact rowT44)); (· (first | rfl | (go_simp; done))); (· exact rfl); (· (first | (apply Finds.box; (· (repeat constructor)); (· (repeat constructor)); done) | (refine Finds.mem2 (by assumption) ?_; first | rfl | assumption | (simp; done)) | (apply Finds.row; (· (repeat constructor)); (· assumption); (· rfl)))))
    | ((with_reducible apply l_store hS); (· (first | exact rowT3)); (· exact rfl); (· (first | (go_simp; done) | (go_simp; with_reducible rfl))); (· (first | rfl | assumption | (simp [Value.oneCell']; done))); (· (repeat constructor)); (· (repeat constructor)); (· (repeat constructor)); clear hS; intro ws hS)
    | ((with_reducible apply l_storeR hS); (· (first | exact rowT3)); (· exact rfl); (· (first | (go_simp; done) | (go_simp; with_reducible rfl))); (· (first | rfl | assumption | (simp [Value.oneCell']; done))); (· (repeat constructor)); (· (first | assumption | omega | (simp; omega))); clear hS; intro ws hS)
    | ((with_reducible apply l_stores hS); (· (first | exact rowT44)); (· exact rfl); (· exact rfl); (· exact rfl); (· (first | assumption | (simp [Value.oneCell']; done))); (· (repeat constructor)); (· (repeat constructor)); (· (repeat constructor)); clear hS; intro ws hS)
        | (go_at_call 51; refine (rcheck_c _ _ hS.inw _ _ HH.out).mono ?_; rintro e' w5 ⟨v5, m5, rfl, rfl, hk⟩; rw [HE.out]; replace hS := hS.call hk; have hle := hk.le; clear hk)
        | (go_at_call 42; refine (copy_c _ _ hS.inw _ _ (dkL.mono hle HH.out)).mono ?_; rintro e' w6 ⟨vd, vq, cells, m6, rfl, hc, hk⟩; rw [HD.out]; replace hS := hS.callOwn hk; simp only [List.cons_append, List.nil_append] at hS; obtain ⟨qd, cd, rfl⟩ := row_form (hS.row 0 rfl); obtain ⟨qq, cq, rfl⟩ := row_form (hS.row 1 rfl); have HC := Lib.hid hc; clear hc hk))
      all_goals
        refine ret_cell_tmp (n := 4) rfl rfl hS (by (repeat constructor)) (by rfl) dkRow rfl ?_
        have A := HA.out
        (try simp only [if_true, Bool.false_eq_true, if_false] at A)
        first
        | (have E : litE d f = 1 := by (unfold litE; rw [A]; first | rw [if_pos (by omega)] | rw [if_neg (by omega)])
           exact close_err E (by unfold litD; rw [E]; rfl) hS)
        | (have E : litE d f = 11 := by (unfold litE; rw [A]; first | rw [if_pos (by omega)] | rw [if_neg (by omega)])
           exact close_err E (by unfold litD; rw [E]; rfl) hS)
        | (have E : litE d f = 0 := by (unfold litE; rw [A]; first | rw [if_pos (by omega)] | rw [if_neg (by omega)])
           have D : litD d f = { d with fuse := f } := by unfold litD; rw [if_pos E]
           rw [D]
           exact close_own E rfl HD.out (inK64 (by omega) (by omega)) hS HR.out HC.out (ok_big HK.out).1 (ok_big HK.out).2)
end Go.Proofs.Ytnmgiiaejpaeeaa
/- Contract of the disk's reference: Write. -/
namespace Go.Proofs.Ytnmgiiaejpaeeaa
set_option linter.unusedVariables false
set_option linter.unusedSimpArgs false
open Go.RowKit
theorem burn_dry (d : Dk) : (burnD d).dry = d.dry ∧ (burnD d).wet = d.wet := by
  unfold burnD
  split
  · exact ⟨rfl, rfl⟩
  · split <;> exact ⟨rfl, rfl⟩
theorem burn_big {d : Dk} (h : checkOK d) : -1 ≤ (burnD d).fuse ∧ (burnD d).fuse ≤ 1073741824 := by
  obtain ⟨_, _, _, _, _, h6, h7⟩ := h
  unfold burnD
  split
  · exact ⟨h6, h7⟩
  · split
    · exact ⟨by show -1 ≤ d.fuse - 1; omega, by show d.fuse - 1 ≤ _; omega⟩
    · exact ⟨h6, h7⟩
theorem burn_dead {d : Dk} (h : d.fuse ≠ 0) : (burnD d).dead = d.dead := by
  unfold burnD
  rw [if_neg h]
  split <;> rfl
theorem deed_burn {d : Dk} (act : Dk → Dk) (h : d.fuse ≠ 0) (hg : -1 ≤ d.fuse) : deedD act d = { act d with fuse := (burnD d).fuse, dead := d.dead } := by
  unfold deedD burnD
  rw [if_neg h, if_neg h]
  by_cases h1 : d.fuse = -1
  · rw [if_pos h1, if_neg (by omega)]; simp [h1]
  · rw [if_neg h1, if_pos (by omega)]
section
variable {d : Dk} {k : Int} {n : Nat}
theorem we1 (h : ¬ checkOK d ∨ n ≠ 32) : writeE0 d k n = 1 := if_pos h
theorem we2 (h : checkOK d) (hn : n = 32) (hd : d.dead = true) : writeE0 d k n = 11 := by unfold writeE0; rw [if_neg (by simp [h, hn]), if_pos hd]
theorem we3 (h : checkOK d) (hn : n = 32) (hd : d.dead = false) (hf : k < 0 ∨ (d.dry.length : Int) / 32 ≤ k) : writeE0 d k n = 5 := by
  unfold writeE0; rw [if_neg (by simp [h, hn]), if_neg (by simp [hd]), if_pos (by simp [farD]; omega)]
theorem we4 (h : checkOK d) (hn : n = 32) (hd : d.dead = false) (hf : 0 ≤ k ∧ k < (d.dry.length : Int) / 32) (hw : d.wet.length = 8192) : writeE0 d k n = 7 := by
  unfold writeE0; rw [if_neg (by simp [h, hn]), if_neg (by simp [hd]), if_neg (by simp [farD]; omega), if_pos hw]
theorem we5 (h : checkOK d) (hn : n = 32) (hd : d.dead = false) (hf : 0 ≤ k ∧ k < (d.dry.length : Int) / 32) (hw : d.wet.length ≠ 8192) : writeE0 d k n = 0 := by
  unfold writeE0; rw [if_neg (by simp [h, hn]), if_neg (by simp [hd]), if_neg (by simp [farD]; omega), if_neg hw]
end
theorem we_err {d : Dk} {k e : Int} {b : List Int} (h : writeE0 d k b.length = e) (h0 : e ≠ 0) : writeE d k b = e ∧ writeD d k b = dk0 := by
  unfold writeE writeD
  rw [h, if_neg h0, if_neg h0]
  exact ⟨rfl, rfl⟩
theorem we_ok {d : Dk} {k : Int} {b : List Int} (h : writeE0 d k b.length = 0) : writeE d k b = deedE d ∧ writeD d k b = deedD (writeAct k b) d := by
  unfold writeE writeD
  rw [if_pos h, if_pos h]
  exact ⟨rfl, rfl⟩
set_option maxRecDepth 100000 in
set_option maxHeartbeats 4000000 in
theorem rwrite_c (m : Mem) (w : World) (hm : m.In w) (cs : List Value) (d : Dk) (h : dkL.rd m cs d) (k : Int) (hik : InK .i64 k) (vb : Value) (b : List Int) (hb : bytesL.rd m [vb] b) :
    Calls Try.prog 44 #[.agg cs.toArray, .int .i64 k, vb] w (RetDE w m (writeD d k b) (writeE d k b)) := by
  have hh := h
  obtain ⟨v0, v1, rfl, h0, h1, _⟩ := dkL_open h
  obtain ⟨p0, c0, rfl, a1, a2, _, a4⟩ := Lay.list_open h0
  obtain ⟨p1, c1, rfl, b1, b2, b3, b4⟩ := Lay.list_open h1
  have HBB := Lib.hid hb
  obtain ⟨p2, c2, rfl, e1, e2, e3, e4⟩ := Lay.list_open hb
  have hS := St.start hm
  have HH := Lib.hid hh
  have HR := Lib.hid a4.inK
  have HIK := Lib.hid hik
  have hn : (d.dry.length : Int) / 32 = ((d.dry.length / 32 : Nat) : Int) := by omega
  have HN := Lib.hid hn
  simp only [maxLen] at a2 b2 e2
  clear h h0 h1 b3 hh a4 b4 hb e3 e4 hik hn
  cases hdd : d.dead
  all_goals
    rw [hdd] at HH
    have HD := Lib.hid hdd
    clear hdd
    rcases checkE_cases d with ⟨hE, hok⟩ | ⟨hE, hok⟩
    all_goals
      have HE := Lib.hid hE
      have HK := Lib.hid hok
      clear hE hok
      go_enter Try.func44, Try.ntmps44
      go_wp2_with (first 
    | ((with_reducible apply l_box (ty := 44) (y := (.tmp 0)) hS); (· (first | (go_simp; done) | (go_simp; with_reducible rfl))); (· exact rfl); clear hS; intro w3 b3 hS)
    | ((with_reducible apply l_alloc (ty := 44) (dst := some 6) hS (.agg #[.slice none 0 0, .slice none 0 0, .int .i64 0, .bool false]) [.slice none 0 0, .slice none 0 0, .int .i64 0, .bool false]); (· kernel_rfl); (· rfl); clear hS; intro w6 b6 hS)
    | ((with_reducible apply l_load hS); (· (first | exact Try.underlying4 | exact Try.underlying22 | exact Try.underlying42)); (· exact rfl); (· exact rfl); (· (first | (apply Find.box; (· (repeat constructor)); rfl) | exact Find.mem (by assumption) | (apply Find.row; (· (repeat constructor)); assumption))))
    | ((with_reducible apply g_load hS); (· (first | exact Try.underlying4 | exact Try.underlying22 | exact Try.underlying42)); (· exact rfl); (· (first | rfl | (go_simp; done))); (· exact rfl); (· (first | (apply Find.box; (· (repeat constructor)); rfl) | exact Find.mem (by assumption) | (apply Find.row; (· (repeat constructor)); assumption))))
    | ((with_reducible apply l_loads hS); (· (first | exact rowT44)); (· exact rfl); (· (first | (apply Finds.box; (· (repeat constructor)); (· (repeat constructor)); done) | (refine Finds.mem2 (by assumption) ?_; first | rfl | assumption | (simp; done)) | (apply Finds.row; (· (repeat constructor)); (· assumption); (· rfl)))))
    | ((with_reducible apply g_loads hS); (· (first | exact rowT44)); (· (first | rfl | (go_simp; done))); (· exact rfl); (· (first | (apply Finds.box; (· (repeat constructor)); (· (repeat constructor)); done) | (refine Finds.mem2 (by assumption) ?_; first | rfl | assumption | (simp; done)) | (apply Finds.row; (· (repeat constructor)); (· assumption); (· rfl)))))
    | ((with_reducible apply l_store hS); (· (first | exact rowT42)); (· exact rfl); (· (first | (go_simp; done) | (go_simp; with_reducible rfl))); (· (first | rfl | assumption | (simp [Value.oneCell']; done))); (· (repeat constructor)); (· (repeat constructor)); (· (repeat constructor)); clear hS; intro ws hS)
    | ((with_reducible apply l_storeR hS); (· (first | exact rowT42)); (· exact rfl); (· (first | (go_simp; done) | (go_simp; with_reducible rfl))); (· (first | rfl | assumption | (simp [Value.oneCell']; done))); (· (repeat constructor)); (· (first | assumption | omega | (simp; omega))); clear hS; intro ws hS)
    | ((with_reducible apply l_stores hS); (· (first | exact rowT44)); (· exact rfl); (· exact rfl); (· exact rfl); (· (first | assumption | (simp [Value.oneCell']; done))); (· (repeat constructor)); (· (repeat constructor)); (· (repeat constructor)); clear hS; intro ws hS)
        | (go_at_call 51; refine (rcheck_c _ _ hS.inw _ _ HH.out).mono ?_; rintro e' w10 ⟨v10, m5, rfl, rfl, hk⟩; rw [HE.out]; replace hS := hS.call hk; have hle := hk.le; clear hk)
        | (go_at_call 83; refine (burn_c _ _ hS.inw _ _ (dkL.mono hle HH.out) HK.out.2.2.2.2.2.2 HK.out.2.2.2.2.2.1).mono ?_; rintro e' w39 ⟨vd, vq, cells, m6, rfl, hc, hk⟩; replace hS := hS.callOwn hk; have hle6 := hk.le; simp only [List.cons_append, List.nil_append] at hS; obtain ⟨qd, cd, rfl⟩ := row_form (hS.row 0 rfl); obtain ⟨qq, cq, rfl⟩ := row_form (hS.row 1 rfl); have HC := Lib.hid hc; clear hc hk; (try rw [(burn_dry d).1] at *); (try rw [(burn_dry d).2] at *)))
      all_goals (try simp only [bne_iff_ne, ne_eq, bne_eq_false_iff_eq, beq_iff_eq, beq_eq_false_iff_ne] at *)
      all_goals first
        | (refine ret_cell_tmp (n := 4) rfl rfl hS (by (repeat constructor)) (by rfl) dkRow rfl ?_
           first
           | (have E := we_err (d := d) (k := k) (b := b) (we1 (.inl HK.out)) (by decide); exact close_err E.1 E.2 hS)
           | (have E := we_err (d := d) (k := k) (b := b) (we1 (.inr (by omega))) (by decide); exact close_err E.1 E.2 hS)
           | (have E := we_err (d := d) (k := k) (b := b) (we2 HK.out (by omega) HD.out) (by decide); exact close_err E.1 E.2 hS)
           | (have E := we_err (d := d) (k := k) (b := b) (we3 HK.out (by omega) HD.out (by omega)) (by decide); exact close_err E.1 E.2 hS)
           | (have E := we_err (d := d) (k := k) (b := b) (we4 HK.out (by omega) HD.out (by omega) (by omega)) (by decide); exact close_err E.1 E.2 hS)
           | (have E := we_ok (d := d) (k := k) (b := b) (we5 HK.out (by omega) HD.out (by omega) (by omega))
              have e0 : d.fuse = 0 := by assumption
              have e1 : deedD (writeAct k b) d = burnD d := by unfold deedD burnD; rw [if_pos e0, if_pos e0]
              rw [E.1, E.2, e1]
              exact close_own (if_pos e0) rfl rfl (inK64 (by have := (burn_big HK.out).1; omega) (by have := (burn_big HK.out).2; omega)) (by rw [(burn_dry d).1, (burn_dry d).2]; exact hS) (by rw [(burn_dry d).1]; exact HR.out) (by rw [(burn_dry d).2]; exact HC.out) (by rw [(burn_dry d).1]; exact (ok_big HK.out).1) (by rw [(burn_dry d).2]; exact (ok_big HK.out).2)))
        | skip
      all_goals
        have HB6 := Lib.hid (bytesL.mono (hle.trans hle6) HBB.out)
        have HW : Hid (d.wet.length < 8192) := by have := HK.out.2.2.2.1; show _ < _; omega
        have HL32 : Hid (b.length = 32) := by show _ = _; omega
        have HF : Hid (0 ≤ k ∧ k < (d.dry.length : Int) / 32) := by show _ ∧ _; omega
        have HF0 : Hid (d.fuse ≠ 0) := by show _ ≠ _; omega
        replace hS := hS.drew
        refine startL (S := Sx _ []) (by kernel_rfl) hS.sx0 (fun _ _ _ _ => trivial) (fun hHeld => ?_)
        focus (refine takeN 0 (v := ?_) rfl (by kernel_rfl) ?_ ?_; rotate_left; focus (intro w hSw; clear hSw; go_simp; try with_reducible rfl))
        try simp only [Act.put, nz1, nz2, nz3]
        focus (refine takeN 2 (v := ?_) rfl (by kernel_rfl) ?_ ?_; rotate_left; focus (intro w hSw; clear hSw; go_simp; try with_reducible rfl))
        try simp only [Act.put, nz1, nz2, nz3]
        focus (refine takeN 3 (v := ?_) rfl (by kernel_rfl) ?_ ?_; rotate_left; focus (intro w hSw; clear hSw; go_simp; try with_reducible rfl))
        try simp only [Act.put, nz1, nz2, nz3]
        refine wpAnyH_ready (rs := [1, 4]) (by kernel_rfl) (by simp) ?_
        refine consL 1 rfl (fun K hK => ?_) (consL 4 rfl (fun K hK => ?_) AllReadyH.nil)
        rotate_right
        focus
          (with_reducible apply s_append_nil u8L el_u8 hS (by decide)); (· exact rfl); (· exact rfl); (· exact HB6.out); clear hS; intro w49 q49 c49 news49 hc49 hS
          refine hK.out _ _ (by first | exact hS.sx0 | exact Sx.le (by assumption) hS.sx0) (fun hHeld => ?_)
          clear hK K
          try simp only [Act.put, nz1, nz2, nz3]
          focus (refine takeN 5 (v := ?_) rfl (by kernel_rfl) ?_ ?_; rotate_left; focus (intro w hSw; clear hSw; go_simp; try with_reducible rfl))
          try simp only [Act.put, nz1, nz2, nz3]
          refine wpAnyH_ready (rs := [1, 6]) (by kernel_rfl) (by simp) ?_
          refine consL 1 rfl (fun K hK => ?_) (consL 6 rfl (fun K hK => ?_) AllReadyH.nil)
          rotate_right
          focus
            (with_reducible apply s_lit el_wr hS (cs := [.int .i64 k, .slice q49 b.length c49])); (· decide); (· decide); (· kernel_rfl); clear hS; intro w51 b51 hS
            refine hK.out _ _ (by first | exact hS.sx0 | exact Sx.le (by assumption) hS.sx0) (fun hHeld => ?_)
            clear hK K
            try simp only [Act.put, nz1, nz2, nz3]
            refine wpAnyH_ready (rs := [1]) (by kernel_rfl) (by simp) ?_
            refine consL 1 rfl (fun K hK => ?_) AllReadyH.nil
            (with_reducible apply s_load hS); (· exact Try.underlying42); (· exact rfl); (· exact rfl); (· (first | (apply Find.box; (· (repeat constructor)); rfl) | exact Find.mem (by assumption) | (apply Find.row; (· (repeat constructor)); assumption)))
            refine hK.out _ _ (by first | exact hS.sx0 | exact Sx.le (by assumption) hS.sx0) (fun hHeld => ?_)
            clear hK K
            try simp only [Act.put, nz1, nz2, nz3]
            refine wpAnyH_ready (rs := [7]) (by kernel_rfl) (by simp) ?_
            refine consL 7 rfl (fun K hK => ?_) AllReadyH.nil
            (with_reducible apply s_appendB el_wr hS (by decide)); (· exact rfl); (· (repeat constructor)); (· exact rfl); (· (repeat constructor)); (· rfl); (· simp [Value.oneCell']); (· have := HW.out; omega); clear hS; intro w52 q52 c52 hS
            refine hK.out _ _ (by first | exact hS.sx0 | exact Sx.le (by assumption) hS.sx0) (fun hHeld => ?_)
            clear hK K
            try simp only [Act.put, nz1, nz2, nz3]
            focus (refine takeN 8 (v := ?_) rfl (by kernel_rfl) ?_ ?_; rotate_left; focus (intro w hSw; clear hSw; go_simp; try with_reducible rfl))
            try simp only [Act.put, nz1, nz2, nz3]
            refine wpAnyH_ready (rs := [9]) (by kernel_rfl) (by simp) ?_
            refine consL 9 rfl (fun K hK => ?_) AllReadyH.nil
            (with_reducible apply s_store hS); (· exact rowT42); (· exact rfl); (· (first | (go_simp; done) | (go_simp; with_reducible rfl))); (· (first | rfl | assumption | (simp [Value.oneCell']; done))); (· (repeat constructor)); (· (repeat constructor)); (· (repeat constructor)); clear hS; intro ws hS
            refine hK.out _ _ (by first | exact hS.sx0 | exact Sx.le (by assumption) hS.sx0) (fun hHeld => ?_)
            clear hK K
            try simp only [Act.put, nz1, nz2, nz3]
            refine wpAnyH_done (by kernel_rfl) ?_ _
            refine NoPanic.normal ?_
          rotate_right
          focus
            (with_reducible apply s_load hS); (· exact Try.underlying42); (· exact rfl); (· exact rfl); (· (first | (apply Find.box; (· (repeat constructor)); rfl) | exact Find.mem (by assumption) | (apply Find.row; (· (repeat constructor)); assumption)))
            refine hK.out _ _ (by first | exact hS.sx0 | exact Sx.le (by assumption) hS.sx0) (fun hHeld => ?_)
            clear hK K
            try simp only [Act.put, nz1, nz2, nz3]
            refine wpAnyH_ready (rs := [6]) (by kernel_rfl) (by simp) ?_
            refine consL 6 rfl (fun K hK => ?_) AllReadyH.nil
            (with_reducible apply s_lit el_wr hS (cs := [.int .i64 k, .slice q49 b.length c49])); (· decide); (· decide); (· kernel_rfl); clear hS; intro w51 b51 hS
            refine hK.out _ _ (by first | exact hS.sx0 | exact Sx.le (by assumption) hS.sx0) (fun hHeld => ?_)
            clear hK K
            try simp only [Act.put, nz1, nz2, nz3]
            refine wpAnyH_ready (rs := [7]) (by kernel_rfl) (by simp) ?_
            refine consL 7 rfl (fun K hK => ?_) AllReadyH.nil
            (with_reducible apply s_appendB el_wr hS (by decide)); (· exact rfl); (· (repeat constructor)); (· exact rfl); (· (repeat constructor)); (· rfl); (· simp [Value.oneCell']); (· have := HW.out; omega); clear hS; intro w52 q52 c52 hS
            refine hK.out _ _ (by first | exact hS.sx0 | exact Sx.le (by assumption) hS.sx0) (fun hHeld => ?_)
            clear hK K
            try simp only [Act.put, nz1, nz2, nz3]
            focus (refine takeN 8 (v := ?_) rfl (by kernel_rfl) ?_ ?_; rotate_left; focus (intro w hSw; clear hSw; go_simp; try with_reducible rfl))
            try simp only [Act.put, nz1, nz2, nz3]
            refine wpAnyH_ready (rs := [9]) (by kernel_rfl) (by simp) ?_
            refine consL 9 rfl (fun K hK => ?_) AllReadyH.nil
            (with_reducible apply s_store hS); (· exact rowT42); (· exact rfl); (· (first | (go_simp; done) | (go_simp; with_reducible rfl))); (· (first | rfl | assumption | (simp [Value.oneCell']; done))); (· (repeat constructor)); (· (repeat constructor)); (· (repeat constructor)); clear hS; intro ws hS
            refine hK.out _ _ (by first | exact hS.sx0 | exact Sx.le (by assumption) hS.sx0) (fun hHeld => ?_)
            clear hK K
            try simp only [Act.put, nz1, nz2, nz3]
            refine wpAnyH_done (by kernel_rfl) ?_ _
            refine NoPanic.normal ?_
        rotate_right
        focus
          (with_reducible apply s_load hS); (· exact Try.underlying42); (· exact rfl); (· exact rfl); (· (first | (apply Find.box; (· (repeat constructor)); rfl) | exact Find.mem (by assumption) | (apply Find.row; (· (repeat constructor)); assumption)))
          refine hK.out _ _ (by first | exact hS.sx0 | exact Sx.le (by assumption) hS.sx0) (fun hHeld => ?_)
          clear hK K
          try simp only [Act.put, nz1, nz2, nz3]
          refine wpAnyH_ready (rs := [4]) (by kernel_rfl) (by simp) ?_
          refine consL 4 rfl (fun K hK => ?_) AllReadyH.nil
          (with_reducible apply s_append_nil u8L el_u8 hS (by decide)); (· exact rfl); (· exact rfl); (· exact HB6.out); clear hS; intro w49 q49 c49 news49 hc49 hS
          refine hK.out _ _ (by first | exact hS.sx0 | exact Sx.le (by assumption) hS.sx0) (fun hHeld => ?_)
          clear hK K
          try simp only [Act.put, nz1, nz2, nz3]
          focus (refine takeN 5 (v := ?_) rfl (by kernel_rfl) ?_ ?_; rotate_left; focus (intro w hSw; clear hSw; go_simp; try with_reducible rfl))
          try simp only [Act.put, nz1, nz2, nz3]
          refine wpAnyH_ready (rs := [6]) (by kernel_rfl) (by simp) ?_
          refine consL 6 rfl (fun K hK => ?_) AllReadyH.nil
          (with_reducible apply s_lit el_wr hS (cs := [.int .i64 k, .slice q49 b.length c49])); (· decide); (· decide); (· kernel_rfl); clear hS; intro w51 b51 hS
          refine hK.out _ _ (by first | exact hS.sx0 | exact Sx.le (by assumption) hS.sx0) (fun hHeld => ?_)
          clear hK K
          try simp only [Act.put, nz1, nz2, nz3]
          refine wpAnyH_ready (rs := [7]) (by kernel_rfl) (by simp) ?_
          refine consL 7 rfl (fun K hK => ?_) AllReadyH.nil
          (with_reducible apply s_appendB el_wr hS (by decide)); (· exact rfl); (· (repeat constructor)); (· exact rfl); (· (repeat constructor)); (· rfl); (· simp [Value.oneCell']); (· have := HW.out; omega); clear hS; intro w52 q52 c52 hS
          refine hK.out _ _ (by first | exact hS.sx0 | exact Sx.le (by assumption) hS.sx0) (fun hHeld => ?_)
          clear hK K
          try simp only [Act.put, nz1, nz2, nz3]
          focus (refine takeN 8 (v := ?_) rfl (by kernel_rfl) ?_ ?_; rotate_left; focus (intro w hSw; clear hSw; go_simp; try with_reducible rfl))
          try simp only [Act.put, nz1, nz2, nz3]
          refine wpAnyH_ready (rs := [9]) (by kernel_rfl) (by simp) ?_
          refine consL 9 rfl (fun K hK => ?_) AllReadyH.nil
          (with_reducible apply s_store hS); (· exact rowT42); (· exact rfl); (· (first | (go_simp; done) | (go_simp; with_reducible rfl))); (· (first | rfl | assumption | (simp [Value.oneCell']; done))); (· (repeat constructor)); (· (repeat constructor)); (· (repeat constructor)); clear hS; intro ws hS
          refine hK.out _ _ (by first | exact hS.sx0 | exact Sx.le (by assumption) hS.sx0) (fun hHeld => ?_)
          clear hK K
          try simp only [Act.put, nz1, nz2, nz3]
          refine wpAnyH_done (by kernel_rfl) ?_ _
          refine NoPanic.normal ?_
        all_goals
          go_wp2_with (first 
    | ((with_reducible apply l_box (ty := 44) (y := (.tmp 0)) hS); (· (first | (go_simp; done) | (go_simp; with_reducible rfl))); (· exact rfl); clear hS; intro w3 b3 hS)
    | ((with_reducible apply l_alloc (ty := 44) (dst := some 6) hS (.agg #[.slice none 0 0, .slice none 0 0, .int .i64 0, .bool false]) [.slice none 0 0, .slice none 0 0, .int .i64 0, .bool false]); (· kernel_rfl); (· rfl); clear hS; intro w6 b6 hS)
    | ((with_reducible apply l_load hS); (· (first | exact Try.underlying4 | exact Try.underlying22 | exact Try.underlying42)); (· exact rfl); (· exact rfl); (· (first | (apply Find.box; (· (repeat constructor)); rfl) | exact Find.mem (by assumption) | (apply Find.row; (· (repeat constructor)); assumption))))
    | ((with_reducible apply g_load hS); (· (first | exact Try.underlying4 | exact Try.underlying22 | exact Try.underlying42)); (· exact rfl); (· (first | rfl | (go_simp; done))); (· exact rfl); (· (first | (apply Find.box; (· (repeat constructor)); rfl) | exact Find.mem (by assumption) | (apply Find.row; (· (repeat constructor)); assumption))))
    | ((with_reducible apply l_loads hS); (· (first | exact rowT44)); (· exact rfl); (· (first | (apply Finds.box; (· (repeat constructor)); (· (repeat constructor)); done) | (refine Finds.mem2 (by assumption) ?_; first | rfl | assumption | (simp; done)) | (apply Finds.row; (· (repeat constructor)); (· assumption); (· rfl)))))
    | ((with_reducible apply g_loads hS); (· (first | exact rowT44)); (· (first | rfl | (go_simp; done))); (· exact rfl); (· (first | (apply Finds.box; (· (repeat constructor)); (· (repeat constructor)); done) | (refine Finds.mem2 (by assumption) ?_; first | rfl | assumption | (simp; done)) | (apply Finds.row; (· (repeat constructor)); (· assumption); (· rfl)))))
    | ((with_reducible apply l_store hS); (· (first | exact rowT42)); (· exact rfl); (· (first | (go_simp; done) | (go_simp; with_reducible rfl))); (· (first | rfl | assumption | (simp [Value.oneCell']; done))); (· (repeat constructor)); (· (repeat constructor)); (· (repeat constructor)); clear hS; intro ws hS)
    | ((with_reducible apply l_storeR hS); (· (first | exact rowT42)); (· exact rfl); (· (first | (go_simp; done) | (go_simp; with_reducible rfl))); (· (first | rfl | assumption | (simp [Value.oneCell']; done))); (· (repeat constructor)); (· (first | assumption | omega | (simp; omega))); clear hS; intro ws hS)
    | ((with_reducible apply l_stores hS); (· (first | exact rowT44)); (· exact rfl); (· exact rfl); (· exact rfl); (· (first | assumption | (simp [Value.oneCell']; done))); (· (repeat constructor)); (· (repeat constructor)); (· (repeat constructor)); clear hS; intro ws hS))
          refine ret_cell_tmp (n := 4) rfl rfl hS (by (repeat constructor)) (by rfl) dkRow rfl ?_
          have E := we_ok (d := d) (k := k) (b := b) (we5 HK.out HL32.out HD.out HF.out (by have := HW.out; omega))
          have e1 := deed_burn (writeAct k b) HF0.out HK.out.2.2.2.2.2.1
          rw [E.1, E.2, e1]
          obtain ⟨m7, hS7, hle7, hrd⟩ := (hS.front (x := .row 5 1 (.slice q49 _ _) _ _) (by (repeat constructor))).settleRow (L := u8L) 0 rfl hc49 (by have := HL32.out; simp [Lay.int, kBytes]; omega)
          replace hS7 := (hS7.front (x := .row 102 2 _ _ _) (by (repeat constructor))).front (x := .row 5 1 _ _ _) (by (repeat constructor))
          refine close_own (if_neg HF0.out) rfl (burn_dead HF0.out).symm (inK64 (by have := (burn_big HK.out).1; omega) (by have := (burn_big HK.out).2; omega)) (by simpa [writeAct, burn_dead HF0.out] using hS7) HR.out ?_ (ok_big HK.out).1 (by have := HW.out; simp [writeAct]; omega)
          exact (HC.out.mono hle7).snoc (wrL_mk (x := ⟨k, b⟩) HIK.out hrd)
end Go.Proofs.Ytnmgiiaejpaeeaa
