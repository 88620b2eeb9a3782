/- Contracts and plain laws that the laws' proofs use, laid together (part 1). -/
import Derived.Test.YtnbhhdncbajkgaaGreatDoorB
import Derived.Test.YtnbhhdncbajkgaaGreatDoorProg
import Derived.Test.YtnbhhdncbajkgaaGreatDoorApp
import Derived.Deep.MidRow
import Derived.Deep.RegionHeld3
import Derived.BigQuiet
import Derived.Deep.QuietTactic
import Derived.IntWalk
import Derived.Laws.AppendOwnNone
import Derived.Laws.ResultCell
import Derived.OwnWalk
/- Data in memory told by layouts, and the state of a walk: what the call itself holds, and what it knows of memory that stays. -/
namespace Go.Proofs.YtnbhhdncbajkgaaGreatDoor
set_option linter.unusedVariables false
set_option linter.unusedSimpArgs false
open Go.RowKit

/-- What is known of memory. -/
abbrev Mem := Addr → Option Value
def Mem.Le (m m' : Mem) : Prop := ∀ a v, m a = some v → m' a = some v
theorem Mem.Le.refl (m : Mem) : m.Le m := fun _ _ h => h
theorem Mem.Le.trans {a b c : Mem} (h : a.Le b) (k : b.Le c) : a.Le c := fun x v hx => k x v (h x v hx)
/-- What is known lies in the world. -/
def Mem.In (m : Mem) (w : World) : Prop := ∀ a v, m a = some v → w.cell? a = some v
def World.mem (w : World) : Mem := fun a => w.cell? a
theorem World.mem_in (w : World) : (World.mem w).In w := fun _ _ h => h

/-- How a thing lies in cells. -/
structure Lay (α : Type) where
  (n : Nat) (bytes : Nat)
  rd : Mem → List Value → α → Prop
  len : ∀ {m cs x}, rd m cs x → cs.length = n
  one : ∀ {m cs x}, rd m cs x → ∀ v ∈ cs, v.oneCell' = true
  mono : ∀ {m m' cs x}, m.Le m' → rd m cs x → rd m' cs x
def InK (k : IntKind) (x : Int) : Prop := k.min ≤ x ∧ x ≤ k.max
def kBytes : IntKind → Nat
  | .i8 | .u8 => 1 | .i16 | .u16 => 2 | .i32 | .u32 => 4 | _ => 8
def Lay.int (k : IntKind) : Lay Int where
  n := 1
  bytes := kBytes k
  rd _ cs x := cs = [.int k x] ∧ InK k x
  len h := by rw [h.1]; rfl
  one h := by rw [h.1]; simp [Value.oneCell']
  mono _ h := h
def Lay.bool : Lay Bool where
  n := 1
  bytes := 1
  rd _ cs x := cs = [.bool x]
  len h := by rw [h]; rfl
  one h := by rw [h]; simp [Value.oneCell']
  mono _ h := h
/-- The things xs lie at p, row by row. -/
def Row {α : Type} (L : Lay α) (m : Mem) (p : Option Addr) (xs : List α) : Prop :=
  0 < xs.length → ∃ b o, p = some ⟨b, o, none⟩ ∧ ∀ i x, xs[i]? = some x → ∃ cs, L.rd m cs x ∧ ∀ j v, cs[j]? = some v → m ⟨b, o + i * L.n + j, none⟩ = some v
theorem Row.nil {α : Type} (L : Lay α) (m : Mem) (p : Option Addr) : Row L m p [] := fun h => absurd h (Nat.lt_irrefl 0)
theorem Row.mono {α : Type} {L : Lay α} {m m' : Mem} {p : Option Addr} {xs : List α} (hm : m.Le m') (h : Row L m p xs) : Row L m' p xs := fun h0 => by
  obtain ⟨b, o, e, hc⟩ := h h0
  exact ⟨b, o, e, fun i x hx => let ⟨cs, h1, h2⟩ := hc i x hx; ⟨cs, L.mono hm h1, fun j v hj => hm _ _ (h2 j v hj)⟩⟩
def Lay.list {α : Type} (L : Lay α) : Lay (List α) where
  n := 1
  bytes := 24
  rd m cs xs := ∃ p c, cs = [.slice p xs.length c] ∧ xs.length ≤ c ∧ c ≤ maxLen ∧ xs.length * L.bytes ≤ 140737488355328 ∧ Row L m p xs
  len h := by obtain ⟨p, c, rfl, _⟩ := h; rfl
  one h := by obtain ⟨p, c, rfl, _⟩ := h; simp [Value.oneCell']
  mono hm h := by obtain ⟨p, c, e, h1, h2, h3, h4⟩ := h; exact ⟨p, c, e, h1, h2, h3, h4.mono hm⟩
def Lay.prod {α β : Type} (L : Lay α) (M : Lay β) : Lay (α × β) where
  n := L.n + M.n
  bytes := L.bytes + M.bytes
  rd m cs x := ∃ c1 c2, cs = c1 ++ c2 ∧ L.rd m c1 x.1 ∧ M.rd m c2 x.2
  len h := by obtain ⟨c1, c2, rfl, h1, h2⟩ := h; rw [List.length_append, L.len h1, M.len h2]
  one h := by
    obtain ⟨c1, c2, rfl, h1, h2⟩ := h
    intro v hv
    rcases List.mem_append.1 hv with h | h
    · exact L.one h1 v h
    · exact M.one h2 v h
  mono hm h := by obtain ⟨c1, c2, e, h1, h2⟩ := h; exact ⟨c1, c2, e, L.mono hm h1, M.mono hm h2⟩
def Lay.by {α β : Type} (L : Lay α) (b : Nat) (f : β → α) : Lay β where
  n := L.n
  bytes := b
  rd m cs x := L.rd m cs (f x)
  len h := L.len h
  one h := L.one h
  mono hm h := L.mono hm h

abbrev u8L : Lay Int := Lay.int .u8
abbrev i64L : Lay Int := Lay.int .i64
abbrev bytesL : Lay (List Int) := (Lay.int .u8).list

theorem Lay.nil_rd {α : Type} (L : Lay α) (m : Mem) : L.list.rd m [.slice none 0 0] [] := ⟨none, 0, rfl, Nat.le_refl _, by simp [maxLen], by simp, Row.nil _ _ _⟩
/-- Integers: as they were told before. -/
theorem Row.rdInt {k : IntKind} {m : Mem} {w : World} {p : Option Addr} {xs : List Int} (h : Row (Lay.int k) m p xs) (hm : m.In w) : Rd k w p xs := fun h0 => by
  obtain ⟨b, o, e, hc⟩ := h h0
  refine ⟨b, o, e, fun i hi => ?_⟩
  obtain ⟨cs, ⟨h1, _⟩, h2⟩ := hc i _ (List.getElem?_eq_getElem hi)
  subst h1
  have := hm _ _ (h2 0 _ rfl)
  simpa [Lay.int, List.getD, List.getElem?_eq_getElem hi] using this
theorem rowInt {k : IntKind} {m : Mem} {p : Option Addr} {xs : List Int} (hk : ∀ x ∈ xs, InK k x)
    (h : 0 < xs.length → ∃ b o, p = some ⟨b, o, none⟩ ∧ ∀ i, i < xs.length → m ⟨b, o + i, none⟩ = some (.int k (xs.getD i 0))) : Row (Lay.int k) m p xs := fun h0 => by
  obtain ⟨b, o, e, hc⟩ := h h0
  refine ⟨b, o, e, fun i x hx => ⟨[.int k x], ⟨rfl, hk x (List.mem_of_getElem? hx)⟩, fun j v hj => ?_⟩⟩
  have hl := (List.getElem?_eq_some_iff.1 hx).1
  cases j with
  | zero =>
    have := hc i hl
    simp [List.getD, hx] at this hj
    simpa [Lay.int, hj] using this
  | succ j => simp at hj
theorem inK_isB {xs : List Int} (h : ∀ x ∈ xs, InK .u8 x) : IsB xs := fun x hx => by
  have := h x hx
  simp [InK, IntKind.min, IntKind.max, IntKind.signed, IntKind.bits] at this
  omega
theorem isB_inK {xs : List Int} (h : IsB xs) : ∀ x ∈ xs, InK .u8 x := fun x hx => by
  have := h x hx
  simp [InK, IntKind.min, IntKind.max, IntKind.signed, IntKind.bits]
  omega
theorem Row.inK {k : IntKind} {m : Mem} {p : Option Addr} {xs : List Int} (h : Row (Lay.int k) m p xs) : ∀ x ∈ xs, InK k x := fun x hx => by
  obtain ⟨i, hi, rfl⟩ := List.getElem_of_mem hx
  obtain ⟨b, o, e, hc⟩ := h (by omega)
  obtain ⟨cs, ⟨_, h1⟩, _⟩ := hc i _ (List.getElem?_eq_getElem hi)
  exact h1
/-- An element of a row: its cells. -/
theorem Row.get {α : Type} {L : Lay α} {m : Mem} {p : Option Addr} {xs : List α} (h : Row L m p xs) (i : Nat) (hi : i < xs.length) :
    ∃ b o cs, p = some ⟨b, o, none⟩ ∧ L.rd m cs xs[i] ∧ ∀ j v, cs[j]? = some v → m ⟨b, o + i * L.n + j, none⟩ = some v := by
  obtain ⟨b, o, e, hc⟩ := h (by omega)
  obtain ⟨cs, h1, h2⟩ := hc i _ (List.getElem?_eq_getElem hi)
  exact ⟨b, o, cs, e, h1, h2⟩
theorem Row.part {α : Type} {L : Lay α} {m : Mem} {b o : Nat} {xs : List α} (h : Row L m (some ⟨b, o, none⟩) xs) (i j : Nat) (hj : j ≤ xs.length) : Row L m (some ⟨b, o + i * L.n, none⟩) ((xs.take j).drop i) := fun h0 => by
  have hl : 0 < xs.length := by simp at h0; omega
  obtain ⟨b', o', e, hc⟩ := h hl
  cases e
  refine ⟨b, o + i * L.n, rfl, fun k x hx => ?_⟩
  rw [List.getElem?_drop, List.getElem?_take] at hx
  split at hx
  · obtain ⟨cs, h1, h2⟩ := hc _ _ hx
    refine ⟨cs, h1, fun j v hv => ?_⟩
    have := h2 j v hv
    rw [Nat.add_mul] at this
    rw [← this]
    congr 2
    omega
  · cases hx

/-! ### The state of a walk -/
/-- What a call holds itself: a block that is known whole, or a row that is appended to. -/
inductive Ent where
  | box (b : Nat) (cs : List Value)
  | row (e : TypeId) (size : Nat) (v : Value) (n : Nat) (xs : List Value)
  | obj (b : Nat) (p : Obj → Prop)
def BoxIn (w : World) (T : Nat) (vs : List Value) : Prop := ∃ t, w.heap[T]? = some (.cells vs.toArray t (0, 0))
def Ent.blk : Ent → Option Nat
  | .box b _ => some b
  | .row _ _ v _ _ => v.ownBlock
  | .obj b _ => some b
def Ent.ok (w : World) : Ent → Prop
  | .box b cs => BoxIn w b cs
  | .row e size v n xs => w.ownsRow 0 e size v n xs
  | .obj b p => ∃ o, w.heap[b]? = some o ∧ p o
theorem Ent.ok.lt {w : World} {x : Ent} (h : x.ok w) : ∀ b, x.blk = some b → b < w.heap.size := by
  intro b hb
  cases x with
  | box b' cs =>
    obtain ⟨t, ht⟩ := h
    cases hb
    exact (Array.getElem?_eq_some_iff.1 ht).1
  | row e size v n xs => exact (World.ownsRow.lt h b hb).2
  | obj b' p =>
    obtain ⟨o, ho, _⟩ := h
    cases hb
    exact (Array.getElem?_eq_some_iff.1 ho).1
theorem Ent.ok.grown {w w' : World} {x : Ent} {r : Option Nat} (h : x.ok w) (hg : w.grownBy w' r) (hn : x.blk = none ∨ x.blk ≠ r) : x.ok w' := by
  cases x with
  | box b cs =>
    obtain ⟨t, ht⟩ := h
    refine ⟨t, ?_⟩
    rw [hg.block b (Array.getElem?_eq_some_iff.1 ht).1 (by simpa [Ent.blk] using hn)]
    exact ht
  | row e size v n xs => exact World.ownsRow.kept h hg hn
  | obj b p =>
    obtain ⟨o, ho, hp⟩ := h
    refine ⟨o, ?_, hp⟩
    rw [hg.block b (Array.getElem?_eq_some_iff.1 ho).1 (by simpa [Ent.blk] using hn)]
    exact ho
/-- Blocks that were there are as they were, but for those of X. -/
structure Kept (X : List Nat) (w w' : World) : Prop where
  os : w'.os = w.os
  tape : w'.tape = w.tape
  output : w'.output = w.output
  size : w.heap.size ≤ w'.heap.size
  block : ∀ k, k < w.heap.size → k ∉ X → w'.heap[k]? = w.heap[k]?
theorem Kept.refl (X : List Nat) (w : World) : Kept X w w := ⟨rfl, rfl, rfl, Nat.le_refl _, fun _ _ _ => rfl⟩
theorem Kept.below {w w' : World} (h : Kept [] w w') : Below w.heap.size w w' := ⟨h.os, h.tape, h.output, h.size, fun k hk => h.block k hk (by simp)⟩
theorem Below.kept {w w' : World} (h : Below w.heap.size w w') (X : List Nat) : Kept X w w' := ⟨h.os, h.tape, h.output, h.size, fun k hk _ => h.block k hk⟩
theorem Kept.grown {X : List Nat} {w w' w'' : World} {r : Option Nat} (h : Kept X w w') (hg : w'.grownBy w'' r) (hr : ∀ b, r = some b → w.heap.size ≤ b ∨ b ∈ X) : Kept X w w'' :=
  ⟨hg.os.trans h.os, hg.tape.trans h.tape, hg.output.trans h.output, Nat.le_trans h.size hg.size, fun k hk hX =>
    (hg.block k (Nat.lt_of_lt_of_le hk h.size) (fun e => (hr k e.symm).elim (fun h => by omega) hX)).trans (h.block k hk hX)⟩

/-- The state of a walk that began in w0, where m0 was known: now in w the call holds es (those of X it was lent), and m is known. -/
structure St (X : List Nat) (w0 : World) (m0 : Mem) (w : World) (es : List Ent) (m : Mem) : Prop where
  kept : Kept X w0 w
  has : ∀ x ∈ es, x.ok w ∧ ∀ b, x.blk = some b → w0.heap.size ≤ b ∨ b ∈ X
  apart : es.Pairwise fun x y => ∀ b, x.blk = some b → y.blk ≠ some b
  know : ∀ a v, m a = some v → w.cell? a = some v ∧ ∀ x ∈ es, x.blk ≠ some a.block
  le : m0.Le m
  new : ∀ a v, m a = some v → m0 a = some v ∨ w0.heap.size ≤ a.block ∨ a.block ∈ X
theorem St.start {w : World} {m : Mem} (h : m.In w) : St [] w m w [] m :=
  ⟨Kept.refl _ _, by simp, .nil, fun a v hv => ⟨h a v hv, by simp⟩, Mem.Le.refl _, fun _ _ h => .inl h⟩
theorem St.startX {w : World} {m : Mem} (es : List Ent) (h : ∀ a v, m a = some v → w.cell? a = some v ∧ ∀ x ∈ es, x.blk ≠ some a.block) (hes : ∀ x ∈ es, x.ok w) (ha : es.Pairwise fun x y => ∀ b, x.blk = some b → y.blk ≠ some b) (X : List Nat)
    (hX : ∀ x ∈ es, ∀ b, x.blk = some b → b ∈ X) : St X w m w es m :=
  ⟨Kept.refl _ _, fun x hx => ⟨hes x hx, fun b hb => .inr (hX x hx b hb)⟩, ha, h, Mem.Le.refl _, fun _ _ h => .inl h⟩
theorem St.inw {X : List Nat} {w0 w : World} {m0 m : Mem} {es : List Ent} (h : St X w0 m0 w es m) : m.In w := fun a v hv => (h.know a v hv).1
theorem St.below {w0 w : World} {m0 m : Mem} {es : List Ent} (h : St [] w0 m0 w es m) : Below w0.heap.size w0 w := h.kept.below
theorem St.box {X : List Nat} {w0 w : World} {m0 m : Mem} {es : List Ent} (h : St X w0 m0 w es m) (i : Nat) {b : Nat} {cs : List Value} (hi : es[i]? = some (.box b cs)) : BoxIn w b cs := (h.has _ (List.mem_of_getElem? hi)).1
theorem St.row {X : List Nat} {w0 w : World} {m0 m : Mem} {es : List Ent} (h : St X w0 m0 w es m) (i : Nat) {e : TypeId} {size n : Nat} {v : Value} {xs : List Value} (hi : es[i]? = some (.row e size v n xs)) : w.ownsRow 0 e size v n xs := (h.has _ (List.mem_of_getElem? hi)).1
theorem BoxIn.get {w : World} {T : Nat} {vs : List Value} (h : BoxIn w T vs) (i : Nat) (v : Value) (hv : vs[i]? = some v) : w.cell? ⟨T, i, none⟩ = some v ∧ w.frozen? ⟨T, i, none⟩ = false := by
  obtain ⟨t, h⟩ := h
  exact ⟨by rw [cell_of_row _ _ _ _ _ _ h]; simpa using hv, frozen_of_row _ _ _ _ _ h⟩
/-- One thing turns (a block of its own, or none), new blocks may be laid. -/
theorem St.set {X : List Nat} {w0 w w' : World} {m0 m : Mem} {es : List Ent} (h : St X w0 m0 w es m) (i : Nat) (x x' : Ent) (hi : es[i]? = some x) (hg : w.grownBy w' x.blk) (hok : x'.ok w') (hb : ∀ b, x'.blk = some b → x.blk = some b ∨ w.heap.size ≤ b) :
    St X w0 m0 w' (es.set i x') m := by
  have hx := h.has x (List.mem_of_getElem? hi)
  have hil := (List.getElem?_eq_some_iff.1 hi).1
  have hoth : ∀ j y, j ≠ i → es[j]? = some y → ∀ b, y.blk = some b → x.blk ≠ some b := fun j y hj hy b hyb => by
    have hjl := (List.getElem?_eq_some_iff.1 hy).1
    obtain ⟨_, rfl⟩ := List.getElem?_eq_some_iff.1 hy
    obtain ⟨_, rfl⟩ := List.getElem?_eq_some_iff.1 hi
    rcases Nat.lt_or_gt_of_ne hj with hlt | hgt
    · exact (List.pairwise_iff_getElem.1 h.apart) j i hjl hil hlt b hyb
    · exact fun hc => (List.pairwise_iff_getElem.1 h.apart) i j hil hjl hgt b hc hyb
  have hsz : ∀ y ∈ es, ∀ b, y.blk = some b → b < w.heap.size := fun y hy b hb => (h.has y hy).1.lt b hb
  refine ⟨h.kept.grown hg fun b hb => hx.2 b hb, fun y hy => ?_, ?_, fun a v hv => ?_, h.le, h.new⟩
  · obtain ⟨j, hj⟩ := List.getElem?_of_mem hy
    rw [List.getElem?_set] at hj
    split at hj
    · cases hj
      exact ⟨hok, fun b hb' => (hb b hb').elim (hx.2 b) (fun h2 => .inl (Nat.le_trans h.kept.size h2))⟩
    · rename_i hne
      have hm := List.mem_of_getElem? hj
      refine ⟨(h.has y hm).1.grown hg ?_, (h.has y hm).2⟩
      cases hyb : y.blk with
      | none => exact .inl rfl
      | some b => exact .inr fun e => hoth j y (fun e => hne e.symm) hj b hyb e.symm
  · rw [List.pairwise_iff_getElem]
    intro j k hj hk hjk b hb1 hb2
    simp only [List.length_set] at hj hk
    rw [List.getElem_set] at hb1 hb2
    by_cases e1 : i = j
    · rw [if_pos e1] at hb1
      rw [if_neg (by omega)] at hb2
      rcases hb b hb1 with h2 | h2
      · exact hoth k es[k] (by omega) (List.getElem?_eq_getElem hk) b hb2 h2
      · exact absurd (hsz _ (List.getElem_mem hk) b hb2) (by omega)
    · rw [if_neg e1] at hb1
      by_cases e2 : i = k
      · rw [if_pos e2] at hb2
        rcases hb b hb2 with h2 | h2
        · exact hoth j es[j] (by omega) (List.getElem?_eq_getElem hj) b hb1 h2
        · exact absurd (hsz _ (List.getElem_mem hj) b hb1) (by omega)
      · rw [if_neg e2] at hb2
        exact (List.pairwise_iff_getElem.1 h.apart) j k hj hk hjk b hb1 hb2
  · obtain ⟨h1, h2⟩ := h.know a v hv
    have hlt := World.block_lt_of_cell? w a h1
    refine ⟨(World.cell?_of_block (hg.block _ hlt fun e => h2 x (List.mem_of_getElem? hi) e.symm)).trans h1, fun y hy => ?_⟩
    obtain ⟨j, hj⟩ := List.getElem?_of_mem hy
    rw [List.getElem?_set] at hj
    split at hj
    · cases hj
      intro e
      rcases hb _ e with h3 | h3
      · exact h2 x (List.mem_of_getElem? hi) h3
      · omega
    · exact h2 y (List.mem_of_getElem? hj)
/-- A new thing of its own. -/
theorem St.add {X : List Nat} {w0 w w' : World} {m0 m : Mem} {es : List Ent} (h : St X w0 m0 w es m) (x : Ent) (hg : w.grownBy w' none) (hok : x.ok w') (hb : ∀ b, x.blk = some b → w.heap.size ≤ b) : St X w0 m0 w' (x :: es) m := by
  have hsz : ∀ y ∈ es, ∀ b, y.blk = some b → b < w.heap.size := fun y hy b hb => (h.has y hy).1.lt b hb
  refine ⟨h.kept.grown hg (by simp), fun y hy => ?_, ?_, fun a v hv => ?_, h.le, h.new⟩
  · rcases List.mem_cons.1 hy with rfl | hy
    · exact ⟨hok, fun b hb' => .inl (Nat.le_trans h.kept.size (hb b hb'))⟩
    · exact ⟨(h.has y hy).1.grown hg (by cases y.blk <;> simp), (h.has y hy).2⟩
  · refine List.pairwise_cons.2 ⟨fun y hy b h1 h2 => ?_, h.apart⟩
    have := hb b h1
    have := hsz y hy b h2
    omega
  · obtain ⟨h1, h2⟩ := h.know a v hv
    have hlt := World.block_lt_of_cell? w a h1
    refine ⟨(World.cell?_of_block (hg.block _ hlt (by simp))).trans h1, fun y hy => ?_⟩
    rcases List.mem_cons.1 hy with rfl | hy
    · exact fun e => by have := hb _ e; omega
    · exact h2 y hy
/-- New blocks that nobody looks at. -/
theorem St.grow {X : List Nat} {w0 w w' : World} {m0 m : Mem} {es : List Ent} (h : St X w0 m0 w es m) (hg : w.grownBy w' none) : St X w0 m0 w' es m := by
  refine ⟨h.kept.grown hg (by simp), fun y hy => ⟨(h.has y hy).1.grown hg (by cases y.blk <;> simp), (h.has y hy).2⟩, h.apart, fun a v hv => ?_, h.le, h.new⟩
  obtain ⟨h1, h2⟩ := h.know a v hv
  exact ⟨(World.cell?_of_block (hg.block _ (World.block_lt_of_cell? w a h1) (by simp))).trans h1, h2⟩
theorem grownBy_drew (w : World) : w.grownBy w.drew none := ⟨rfl, rfl, rfl, Nat.le_refl _, fun _ _ _ => rfl⟩
theorem grownBy_of_below {w w' : World} (h : Below w.heap.size w w') : w.grownBy w' none := ⟨h.os, h.tape, h.output, h.size, fun k hk _ => h.block k hk⟩
theorem St.drew {X : List Nat} {w0 w : World} {m0 m : Mem} {es : List Ent} (h : St X w0 m0 w es m) : St X w0 m0 w.drew es m := h.grow (grownBy_drew w)
/-- A call that leaves all that was there as it was. -/
theorem St.call {X : List Nat} {w0 w w' : World} {m0 m m' : Mem} {es : List Ent} (h : St X w0 m0 w es m) (k : St [] w m w' [] m') : St X w0 m0 w' es m' := by
  have h1 := h.grow (grownBy_of_below k.below)
  refine ⟨h1.kept, h1.has, h1.apart, fun a v hv => ⟨(k.know a v hv).1, fun x hx e => ?_⟩, h.le.trans k.le, fun a v hv => ?_⟩
  · rcases k.new a v hv with h2 | h2 | h2
    · exact (h.know a v h2).2 x hx e
    · have := (h.has x hx).1.lt _ e
      omega
    · simp at h2
  · rcases k.new a v hv with h2 | h2 | h2
    · exact h.new a v h2
    · exact .inr (.inl (Nat.le_trans h.kept.size h2))
    · simp at h2
/-- A call that hands back things of its own. -/
theorem St.callOwn {X : List Nat} {w0 w w' : World} {m0 m m' : Mem} {es fs : List Ent} (h : St X w0 m0 w es m) (k : St [] w m w' fs m') : St X w0 m0 w' (fs ++ es) m' := by
  have hdrop : St [] w m w' [] m' := ⟨k.kept, by simp, .nil, fun a v hv => ⟨(k.know a v hv).1, by simp⟩, k.le, k.new⟩
  have h1 := h.call hdrop
  refine ⟨h1.kept, fun x hx => ?_, ?_, fun a v hv => ⟨(k.know a v hv).1, fun x hx => ?_⟩, h1.le, h1.new⟩
  · rcases List.mem_append.1 hx with hx | hx
    · exact ⟨(k.has x hx).1, fun b hb => .inl (by have := (k.has x hx).2 b hb; simp at this; exact Nat.le_trans h.kept.size this)⟩
    · exact h1.has x hx
  · refine List.pairwise_append.2 ⟨k.apart, h.apart, fun x hx y hy b hb1 hb2 => ?_⟩
    have h2 := (k.has x hx).2 b hb1
    have h3 := (h.has y hy).1.lt b hb2
    simp at h2
    omega
  · rcases List.mem_append.1 hx with hx | hx
    · exact (k.know a v hv).2 x hx
    · exact (h1.know a v hv).2 x hx
theorem St.drop {X : List Nat} {w0 w : World} {m0 m : Mem} {es : List Ent} (h : St X w0 m0 w es m) (fs : List Ent) (hs : fs.Sublist es) : St X w0 m0 w fs m :=
  ⟨h.kept, fun x hx => h.has x (hs.subset hx), h.apart.sublist hs, fun a v hv => ⟨(h.know a v hv).1, fun x hx => (h.know a v hv).2 x (hs.subset hx)⟩, h.le, h.new⟩
theorem St.done {X : List Nat} {w0 w : World} {m0 m : Mem} {es : List Ent} (h : St X w0 m0 w es m) : St X w0 m0 w [] m := h.drop [] (List.nil_sublist _)
/-- A thing of its own is let be: what lies in it is known from now on. -/
theorem St.settle {X : List Nat} {w0 w : World} {m0 m : Mem} {es : List Ent} (h : St X w0 m0 w es m) (i : Nat) (x : Ent) (hi : es[i]? = some x) :
    ∃ m', St X w0 m0 w (es.eraseIdx i) m' ∧ m.Le m' ∧ (∀ a v, x.blk = some a.block → w.cell? a = some v → m' a = some v) := by
  refine ⟨fun a => if x.blk = some a.block then w.cell? a else m a, ?_, fun a v hv => ?_, fun a v hx hv => by simp [hx, hv]⟩
  · have hd := h.drop _ (List.eraseIdx_sublist es i)
    refine ⟨hd.kept, hd.has, hd.apart, fun a v hv => ?_, fun a v hv => ?_, fun a v hv => ?_⟩
    · split at hv
      · rename_i hb
        refine ⟨hv, fun y hy e => ?_⟩
        obtain ⟨j, hj⟩ := List.getElem?_of_mem hy
        rw [List.getElem?_eraseIdx] at hj
        obtain ⟨hil, rfl⟩ := List.getElem?_eq_some_iff.1 hi
        split at hj
        · rename_i hlt
          obtain ⟨hjl, rfl⟩ := List.getElem?_eq_some_iff.1 hj
          exact (List.pairwise_iff_getElem.1 h.apart) j i hjl hil hlt _ e hb
        · rename_i hge
          obtain ⟨hjl, rfl⟩ := List.getElem?_eq_some_iff.1 hj
          exact (List.pairwise_iff_getElem.1 h.apart) i (j + 1) hil hjl (by omega) _ hb e
      · exact hd.know a v hv
    · have h1 := h.le a v hv
      have h2 := (h.know a v h1).2 x (List.mem_of_getElem? hi)
      simp [h2, h1]
    · split at hv
      · rename_i hb
        exact .inr ((h.has x (List.mem_of_getElem? hi)).2 _ hb)
      · exact h.new a v hv
  · have h2 := (h.know a v hv).2 x (List.mem_of_getElem? hi)
    simp [h2, hv]

/-- What a contract says: it returns a value of which Q holds, of what is known behind it. -/
def Ret (w : World) (m : Mem) (Q : Value → Mem → Prop) : Ending → World → Prop := fun e w' => ∃ v m', e = .returned v ∧ Q v m' ∧ St [] w m w' [] m'
end Go.Proofs.YtnbhhdncbajkgaaGreatDoor
/- The rules of a walk over its state: boxes, loads, stores, appends, copies. -/
namespace Go.Proofs.YtnbhhdncbajkgaaGreatDoor
set_option linter.unusedVariables false
set_option linter.unusedSimpArgs false
open Go.RowKit
variable {P : Program} {X : List Nat} {w0 w : World} {m0 m : Mem} {es : List Ent} {o : Oper} {a : Act} {K : Act → World → Prop} {Q : Exit → Act → World → Prop}

theorem grownBy_new (w : World) (o : Obj) : w.grownBy (w.alloc o) none := World.grownBy_alloc w o none
theorem box_new (w : World) (cs : List Value) (t : TypeId) : BoxIn (w.alloc (.cells cs.toArray t)) w.heap.size cs := ⟨t, heap_alloc_new w _⟩
theorem St.box_new (hS : St X w0 m0 w es m) (cs : List Value) (t : TypeId) : St X w0 m0 (w.alloc (.cells cs.toArray t)) (.box w.heap.size cs :: es) m :=
  hS.add (.box w.heap.size cs) (grownBy_new _ _) (Go.Proofs.YtnbhhdncbajkgaaGreatDoor.box_new w cs t) (fun b hb => by cases hb; exact Nat.le_refl _)
theorem op_box (hS : St X w0 m0 w es m) (ty : TypeId) (y : Operand) (ho : o.op = .box ty y) (cs : List Value) (hc : (a.eval y).cells = cs.toArray)
    (h : ∀ w' b, St X w0 m0 w' (.box b cs :: es) m → K (a.put o.dst (.pointer (some ⟨b, 0, none⟩))) w') : o.wp P a w K Q := by
  have hrun : (Instr.box ty (a.eval y)).run P w = .ok (.pointer (some ⟨w.heap.size, 0, none⟩)) (w.alloc (.cells cs.toArray ty)) := by
    simp [Instr.box, newVar, newRow, hc, newObj, Sem.run_bind, Sem.run, ← World.alloc_eq]
  unfold Oper.wp execOp
  simp only [ho, Sem.run_bind, hrun, Result.andThen_ok, Sem.run_pure]
  exact h _ _ (hS.box_new cs ty)
theorem op_alloc (hS : St X w0 m0 w es m) (ty : TypeId) (ho : o.op = .alloc ty) (z : Value) (hz : (P.info? ty).bind (·.zero) = some z) (cs : List Value) (hc : z.cells = cs.toArray)
    (h : ∀ w' b, St X w0 m0 w' (.box b cs :: es) m → K (a.put o.dst (.pointer (some ⟨b, 0, none⟩))) w') : o.wp P a w K Q := by
  have hrun : (Instr.alloc ty true (.tuple #[])).run P w = .ok (.pointer (some ⟨w.heap.size, 0, none⟩)) (w.alloc (.cells cs.toArray ty)) := by
    cases hq : P.info? ty with
    | none => simp [hq] at hz
    | some i =>
      simp [hq] at hz
      simp [Instr.alloc, zeroValue, typeInfo, hq, hz, newVar, newRow, hc, newObj, Sem.run_bind, Sem.run, ← World.alloc_eq]
  unfold Oper.wp execOp
  simp only [ho, Sem.run_bind, hrun, Result.andThen_ok, Sem.run_pure]
  exact h _ _ (hS.box_new cs ty)
theorem run_loadVar_one {w : World} {b off : Nat} {ty : TypeId} {v : Value} (hv : w.cell? ⟨b, off, none⟩ = some v) {d : TypeDesc} (hu : P.underlying ty = some d) (hd : d.isRow = false) :
    (loadVar ty ⟨b, off, none⟩).run P w = .ok v w := by
  have hagg : (isAgg ty).run P w = .ok false w := by
    unfold isAgg
    rw [Sem.run_bind, run_underlying hu w]
    cases d <;> simp_all
  simp [loadVar, Sem.run_bind, hagg, load, Sem.run, hv]
theorem op_load (ty : TypeId) (x : Operand) (ho : o.op = .load ty x) (b off : Nat) (hx : a.eval x = .pointer (some ⟨b, off, none⟩)) (v : Value) (hv : w.cell? ⟨b, off, none⟩ = some v)
    (d : TypeDesc) (hu : P.underlying ty = some d) (hd : d.isRow = false) (h : K (a.put o.dst v) w) : o.wp P a w K Q := by
  unfold Oper.wp execOp
  simp only [ho, hx, Instr.loadAt, Instr.sureAddr, Sem.run_bind, Sem.run_pure, Result.andThen_ok, run_loadVar_one hv hu hd]
  exact h
theorem op_load_box (hS : St X w0 m0 w es m) (ty : TypeId) (x : Operand) (ho : o.op = .load ty x) (b off : Nat) (hx : a.eval x = .pointer (some ⟨b, off, none⟩)) (i : Nat) (cs : List Value) (hi : es[i]? = some (.box b cs)) (v : Value) (hv : cs[off]? = some v)
    (d : TypeDesc) (hu : P.underlying ty = some d) (hd : d.isRow = false) (h : K (a.put o.dst v) w) : o.wp P a w K Q :=
  op_load ty x ho b off hx v ((hS.box i hi).get off v hv).1 d hu hd h
theorem op_load_mem (hS : St X w0 m0 w es m) (ty : TypeId) (x : Operand) (ho : o.op = .load ty x) (b off : Nat) (hx : a.eval x = .pointer (some ⟨b, off, none⟩)) (v : Value) (hv : m ⟨b, off, none⟩ = some v)
    (d : TypeDesc) (hu : P.underlying ty = some d) (hd : d.isRow = false) (h : K (a.put o.dst v) w) : o.wp P a w K Q :=
  op_load ty x ho b off hx v (hS.inw _ _ hv) d hu hd h
theorem op_loads_box (hS : St X w0 m0 w es m) (ty : TypeId) (x : Operand) (ho : o.op = .load ty x) (b off : Nat) (hx : a.eval x = .pointer (some ⟨b, off, none⟩)) (i : Nat) (cs : List Value) (hi : es[i]? = some (.box b cs)) (vs : List Value) (hv : (cs.drop off).take vs.length = vs)
    (d : TypeDesc) (hu : P.underlying ty = some d) (hd : d.isRow = true) (hn : (P.info? ty).map (·.size) = some vs.length) (h : K (a.put o.dst (.agg vs.toArray)) w) : o.wp P a w K Q :=
  wp_load_mid ty x ho b off hx vs d (fun j v hj => ((hS.box i hi).get _ v (by
    have hl := (List.getElem?_eq_some_iff.1 hj).1
    rw [← hv, List.getElem?_take_of_lt hl, List.getElem?_drop] at hj
    exact hj)).1) hu hd hn h
theorem op_loads_mem (hS : St X w0 m0 w es m) (ty : TypeId) (x : Operand) (ho : o.op = .load ty x) (b off : Nat) (hx : a.eval x = .pointer (some ⟨b, off, none⟩)) (vs : List Value) (hv : ∀ j v, vs[j]? = some v → m ⟨b, off + j, none⟩ = some v)
    (d : TypeDesc) (hu : P.underlying ty = some d) (hd : d.isRow = true) (hn : (P.info? ty).map (·.size) = some vs.length) (h : K (a.put o.dst (.agg vs.toArray)) w) : o.wp P a w K Q :=
  wp_load_mid ty x ho b off hx vs d (fun j v hj => hS.inw _ _ (hv j v hj)) hu hd hn h
theorem setCell_box {w : World} {b : Nat} {cs : List Value} (h : BoxIn w b cs) (i : Nat) (v : Value) : BoxIn (w.setCell ⟨b, i, none⟩ v) b (cs.set i v) := by
  obtain ⟨t, h⟩ := h
  exact ⟨t, by rw [heap_setCell_same w b i _ _ v h]; simp⟩
theorem grownBy_setCell (w : World) (a : Addr) (v : Value) : w.grownBy (w.setCell a v) (some a.block) :=
  ⟨rfl, rfl, rfl, by simp [World.setCell], fun k hk hn => Below.heap_setCell _ _ _ _ (fun e => hn (by rw [e]))⟩
theorem run_storeVar_one {w : World} {b off : Nat} {ty : TypeId} {v u : Value} (hu : w.cell? ⟨b, off, none⟩ = some u) (hf : w.frozen? ⟨b, off, none⟩ = false) (h1 : v.oneCell' = true) (hn : (P.info? ty).map (·.size) = some 1) :
    (storeVar ty ⟨b, off, none⟩ v).run P w = .ok () (w.setCell ⟨b, off, none⟩ v) := by
  have hc : v.cells = #[v] := by cases v <;> simp_all [Value.cells, Value.oneCell']
  have hadd : (⟨b, off, none⟩ : Addr).add 0 = ⟨b, off, none⟩ := by unfold Addr.add; simp
  cases hq : P.info? ty with
  | none => simp [hq] at hn
  | some i =>
    simp [hq] at hn
    have hst : ∀ k : Sem Unit, (Sem.store .plain ⟨b, off, none⟩ v k).run P w = k.run P (w.setCell ⟨b, off, none⟩ v) := fun k => by
      cases v <;> first | (simp [Value.oneCell'] at h1; done) | simp [Sem.run, hu, hf]
    simp [storeVar, sizeOf, typeInfo, hq, hn, hc, storeCells, hadd, store, Sem.run_bind, hst]
theorem op_store_box (hS : St X w0 m0 w es m) (ty : TypeId) (x y : Operand) (ho : o.op = .store ty x y) (b off : Nat) (hx : a.eval x = .pointer (some ⟨b, off, none⟩)) (v : Value) (hy : a.eval y = v) (h1 : v.oneCell' = true) (i : Nat) (cs : List Value) (hi : es[i]? = some (.box b cs)) (hl : off < cs.length)
    (hn : (P.info? ty).map (·.size) = some 1) (h : ∀ w', St X w0 m0 w' (es.set i (.box b (cs.set off v))) m → K (a.put o.dst undef) w') : o.wp P a w K Q := by
  have hb := hS.box i hi
  have hg := hb.get off _ (List.getElem?_eq_getElem hl)
  unfold Oper.wp execOp
  simp only [ho, hx, hy, Instr.storeAt, Instr.sureAddr, Sem.run_bind, Sem.run_pure, Result.andThen_ok, run_storeVar_one hg.1 hg.2 h1 hn]
  exact h _ (hS.set i _ _ hi (grownBy_setCell _ _ _) (setCell_box hb off v) (fun _ h => .inl h))
theorem setCells_box {b : Nat} {t : TypeId} : ∀ (vs : List Value) (w : World) (off : Nat) (cs : List Value), w.heap[b]? = some (.cells cs.toArray t (0, 0)) → off + vs.length ≤ cs.length →
    (w.setCells b off vs).heap[b]? = some (.cells (cs.take off ++ vs ++ cs.drop (off + vs.length)).toArray t (0, 0)) ∧ w.grownBy (w.setCells b off vs) (some b)
  | [], w, off, cs, h, hl => by
    refine ⟨?_, ⟨rfl, rfl, rfl, Nat.le_refl _, fun _ _ _ => rfl⟩⟩
    simpa [World.setCells] using h
  | v :: vs, w, off, cs, h, hl => by
    simp only [List.length_cons] at hl
    have h1 : (w.setCell ⟨b, off, none⟩ v).heap[b]? = some (.cells (cs.set off v).toArray t (0, 0)) := by rw [heap_setCell_same w b off _ _ v h]; simp
    obtain ⟨h2, h3⟩ := setCells_box vs (w.setCell ⟨b, off, none⟩ v) (off + 1) (cs.set off v) h1 (by simp; omega)
    have hg := grownBy_setCell w ⟨b, off, none⟩ v
    refine ⟨?_, ⟨h3.os.trans hg.os, h3.tape.trans hg.tape, h3.output.trans hg.output, Nat.le_trans hg.size h3.size, fun k hk hn => (h3.block k (Nat.lt_of_lt_of_le hk hg.size) hn).trans (hg.block k hk hn)⟩⟩
    rw [World.setCells, h2]
    congr 3
    rw [List.length_cons, show off + (vs.length + 1) = off + 1 + vs.length by omega, List.drop_set_of_lt (by omega)]
    rw [List.take_succ_eq_append_getElem (by simp; omega), List.take_set_of_le (Nat.le_refl _)]
    simp
theorem op_stores_box (hS : St X w0 m0 w es m) (ty : TypeId) (x y : Operand) (ho : o.op = .store ty x y) (b off : Nat) (hx : a.eval x = .pointer (some ⟨b, off, none⟩)) (vs : List Value) (hy : a.eval y = .agg vs.toArray) (h1 : ∀ v ∈ vs, v.oneCell' = true) (i : Nat) (cs : List Value) (hi : es[i]? = some (.box b cs)) (hl : off + vs.length ≤ cs.length)
    (hn : (P.info? ty).map (·.size) = some vs.length) (h : ∀ w', St X w0 m0 w' (es.set i (.box b (cs.take off ++ vs ++ cs.drop (off + vs.length)))) m → K (a.put o.dst undef) w') : o.wp P a w K Q := by
  have hb := hS.box i hi
  obtain ⟨t, ht⟩ := hS.box i hi
  obtain ⟨h2, h3⟩ := setCells_box vs w off cs ht hl
  refine wp_store_mid ty x y ho b off vs.toArray hx hy (fun j hj => ?_) (by simpa using hn) (all_oneCell_toArray h1) ?_
  · simp at hj
    have := hb.get (off + j) _ (List.getElem?_eq_getElem (by omega))
    exact ⟨by simp [this.1], this.2⟩
  · exact h _ (hS.set i _ _ hi h3 ⟨t, h2⟩ (fun _ h => .inl h))
/-- A slice type, its element's type, its cells, its octets, its zero value. -/
structure Elem (P : Program) (t e : TypeId) (size bytes : Nat) (z : Value) : Prop where
  under : P.underlying t = some (.slice e)
  info : (P.info? e).map (fun i => (i.zero, i.size, i.bytes)) = some (some z, size, bytes)
  zsize : z.cells.size = size
  pos : 0 < size
theorem Elem.at {t e : TypeId} {size bytes : Nat} {z : Value} (h : Elem P t e size bytes z) : ∃ i, P.info? e = some i ∧ i.zero = some z ∧ i.size = size ∧ i.bytes = bytes := by
  have := h.info
  cases hq : P.info? e with
  | none => simp [hq] at this
  | some i => simp [hq] at this; exact ⟨i, rfl, this⟩
theorem op_append (hS : St X w0 m0 w es m) {t e : TypeId} {size bytes : Nat} {z : Value} (hE : Elem P t e size bytes z) (s x : Operand) (ho : o.op = .call { callee := .builtin .append, args := #[s, x], argTypes := #[t, t] })
    (i : Nat) (v : Value) (n : Nat) (xs : List Value) (hi : es[i]? = some (.row e size v n xs)) (hs : a.eval s = v) (p : Option Addr) (k c : Nat) (hx : a.eval x = .slice p k c) (news : List Value) (hl : news.length = k * size)
    (hp : p = none → k = 0 ∧ c = 0) (hnews : ∀ ad, p = some ad → ∀ j u, news[j]? = some u → w.cell? (ad.add j) = some u) (h1 : ∀ u ∈ news, u.oneCell' = true) (h63 : n + k ≤ maxLen) (hbytes : (n + k) * bytes ≤ 140737488355328)
    (h : ∀ w' v', St X w0 m0 w' (es.set i (.row e size v' (n + k) (xs ++ news))) m → K (a.put o.dst v') w') : o.wp P a w K Q := by
  obtain ⟨ti, hi1, hi2, hi3, hi4⟩ := hE.at
  have hown := hS.row i hi
  cases p with
  | none =>
    obtain ⟨rfl, rfl⟩ := hp rfl
    have hn0 : news = [] := List.eq_nil_of_length_eq_zero (by omega)
    subst hn0
    have hrun := run_append_owned_none (P := P) (w := w) 0 t o.type e ti size hE.under hi1 v n xs hown
    have h' := h w v (by
      have := hS.set i _ (.row e size v (n + 0) (xs ++ [])) hi (w' := w) ⟨rfl, rfl, rfl, Nat.le_refl _, fun _ _ _ => rfl⟩ (by simpa [Ent.ok] using hown) (fun _ h => .inl h)
      exact this)
    unfold Oper.wp
    simp [execOp, ho, resolve, invoke, builtin, hs, hx, hrun, Result.andThen]
    exact h'
  | some ad =>
    obtain ⟨v', w', hrun, ho', hg, hiff⟩ := run_append_own (P := P) w 0 t o.type e ti z size bytes hE.under hi1 hi2 hi3 hi4 hE.zsize hE.pos v n xs hown ad k c news hl (hnews ad rfl) h1 h63 hbytes (Nat.zero_le _)
    have hb : ∀ b, v'.ownBlock = some b → v.ownBlock = some b ∨ w.heap.size ≤ b := by
      subst hi3 hi4
      rcases hown.2 with ⟨rfl, rfl⟩ | ⟨g, cap, cur, rfl, hbg, hgg, hnc, hcm, hcs, htake⟩
      · obtain ⟨v2, w2, hrun2, ho2, _⟩ := run_append_own (P := P) w w.heap.size t o.type e ti z ti.size ti.bytes hE.under hi1 hi2 rfl rfl hE.zsize hE.pos (.slice none 0 0) 0 xs ⟨hown.1, .inl ⟨rfl, rfl⟩⟩ ad k c news hl (hnews ad rfl) h1 h63 hbytes (Nat.le_refl _)
        rw [hrun] at hrun2
        cases hrun2
        exact fun b hb => .inr (ho2.lt b hb).1
      · by_cases hroom : n + k ≤ cap
        · have hfit : n * ti.size + news.length ≤ cur.size := by rw [hl, hcs, ← Nat.add_mul]; exact Nat.mul_le_mul_right _ hroom
          have hr := run_append_room (P := P) w t o.type e ti hE.under hi1 g n cap cur hgg ad k c news hl (hnews ad rfl) h1 hroom hfit
          rw [hrun] at hr
          cases hr
          exact fun b hb => .inl hb
        · have holds : ∀ j u, xs[j]? = some u → w.cell? ((⟨g, 0, none⟩ : Addr).add j) = some u := hown.cells (g := g) rfl
          have hr := run_append_grow (P := P) w t o.type e ti z hE.under hi1 hi2 ⟨g, 0, none⟩ n cap xs hown.1 holds ad k c news hl (hnews ad rfl) (by omega) (by have := h63; simp only [maxLen] at this; omega) (growslice_fits (by omega) hbytes)
          rw [hrun] at hr
          cases hr
          exact fun b hb => .inr (by simp [Value.ownBlock] at hb; omega)
    unfold Oper.wp execOp
    simp only [ho, resolve, invoke, builtin, Sem.run_bind, Sem.run_pure, Result.andThen_ok, List.map_toArray, List.map_cons, List.map_nil, hs, hx, hrun]
    exact h w' v' (hS.set i _ _ hi hg ho' hb)
end Go.Proofs.YtnbhhdncbajkgaaGreatDoor
/- The rules of a walk, as its arms take them: what is looked up, and what turns, is found by its shape. -/
namespace Go.Proofs.YtnbhhdncbajkgaaGreatDoor
set_option linter.unusedVariables false
set_option linter.unusedSimpArgs false
open Go.RowKit
variable {ops : Array Oper} {P : Program} {X : List Nat} {w0 w : World} {m0 m : Mem} {es : List Ent} {o : Oper} {a : Act} {K : Act → World → Prop} {Q : Exit → Act → World → Prop}

/-- n cells from off on. -/
inductive SubL : List Value → Nat → Nat → List Value → Prop
  | stop {l : List Value} : SubL l 0 0 []
  | take {l : List Value} {x : Value} {n : Nat} {vs : List Value} : SubL l 0 n vs → SubL (x :: l) 0 (n + 1) (x :: vs)
  | skip {l : List Value} {x : Value} {k n : Nat} {vs : List Value} : SubL l k n vs → SubL (x :: l) (k + 1) n vs
theorem SubL.eq {l : List Value} {k n : Nat} {vs : List Value} (h : SubL l k n vs) : vs.length = n ∧ (l.drop k).take vs.length = vs := by
  induction h with
  | stop => simp
  | take h ih => simp at ih ⊢; exact ⟨ih.1, ih.2⟩
  | skip h ih => simpa using ih
inductive SetsL : List Value → Nat → List Value → List Value → Prop
  | stop {l : List Value} : SetsL l 0 [] l
  | put {l l' : List Value} {x v : Value} {vs : List Value} : SetsL l 0 vs l' → SetsL (x :: l) 0 (v :: vs) (v :: l')
  | skip {l l' : List Value} {x : Value} {k : Nat} {vs : List Value} : SetsL l k vs l' → SetsL (x :: l) (k + 1) vs (x :: l')
theorem SetsL.eq {l l' : List Value} {k : Nat} {vs : List Value} (h : SetsL l k vs l') : k + vs.length ≤ l.length ∧ l' = l.take k ++ vs ++ l.drop (k + vs.length) := by
  induction h with
  | stop => simp
  | put h ih => obtain ⟨h1, h2⟩ := ih; simp at h1 h2 ⊢; exact ⟨h1, h2⟩
  | skip h ih =>
    obtain ⟨h1, h2⟩ := ih
    simp only [List.length_cons, List.take_succ_cons, List.cons_append]
    refine ⟨by omega, ?_⟩
    rw [show ∀ a b : Nat, a + 1 + b = (a + b) + 1 from fun a b => by omega, List.drop_succ_cons, h2]
/-- A block of es, its cells, and es with other cells there. -/
inductive UpdB : List Ent → Nat → List Value → List Value → List Ent → Prop
  | head {l : List Ent} {b : Nat} {cs cs' : List Value} : UpdB (.box b cs :: l) b cs cs' (.box b cs' :: l)
  | tail {l l' : List Ent} {b : Nat} {cs cs' : List Value} {x : Ent} : UpdB l b cs cs' l' → UpdB (x :: l) b cs cs' (x :: l')
theorem UpdB.at {es es' : List Ent} {b : Nat} {cs cs' : List Value} (h : UpdB es b cs cs' es') : ∃ i : Nat, es[i]? = some (.box b cs) ∧ es' = es.set i (.box b cs') := by
  induction h with
  | head => exact ⟨0, rfl, rfl⟩
  | tail h ih => obtain ⟨i, h1, h2⟩ := ih; exact ⟨i + 1, h1, by rw [h2]; rfl⟩
/-- A row of es, and es with another one there. -/
inductive RowAt : List Ent → TypeId → Nat → Value → Nat → List Value → (Value → Nat → List Value → List Ent) → Prop
  | head {l : List Ent} {e : TypeId} {size n : Nat} {v : Value} {xs : List Value} : RowAt (.row e size v n xs :: l) e size v n xs (fun v' n' xs' => .row e size v' n' xs' :: l)
  | tail {l : List Ent} {e : TypeId} {size n : Nat} {v : Value} {xs : List Value} {x : Ent} {f : Value → Nat → List Value → List Ent} : RowAt l e size v n xs f → RowAt (x :: l) e size v n xs (fun v' n' xs' => x :: f v' n' xs')
theorem RowAt.at {es : List Ent} {e : TypeId} {size n : Nat} {v : Value} {xs : List Value} {f : Value → Nat → List Value → List Ent} (h : RowAt es e size v n xs f) : ∃ i : Nat, es[i]? = some (.row e size v n xs) ∧ ∀ v' n' xs', f v' n' xs' = es.set i (.row e size v' n' xs') := by
  induction h with
  | head => exact ⟨0, rfl, fun _ _ _ => rfl⟩
  | tail h ih => obtain ⟨i, h1, h2⟩ := ih; exact ⟨i + 1, h1, fun v' n' xs' => by simp only [h2]; rfl⟩
/-- Where a cell is found: in a block of es, or in what is known. -/
inductive Find (es : List Ent) (m : Mem) (b off : Nat) (v : Value) : Prop
  | box {cs : List Value} : Ent.box b cs ∈ es → cs[off]? = some v → Find es m b off v
  | mem : m ⟨b, off, none⟩ = some v → Find es m b off v
  | row {e : TypeId} {size n c : Nat} {xs : List Value} : Ent.row e size (.slice (some ⟨b, 0, none⟩) n c) n xs ∈ es → xs[off]? = some v → Find es m b off v
theorem St.rowCell (hS : St X w0 m0 w es m) {e : TypeId} {size n c b : Nat} {xs : List Value} (h : Ent.row e size (.slice (some ⟨b, 0, none⟩) n c) n xs ∈ es) (j : Nat) (v : Value) (hj : xs[j]? = some v) : w.cell? ⟨b, j, none⟩ = some v := by
  obtain ⟨i, hi⟩ := List.getElem?_of_mem h
  have := (hS.row i hi).cells (g := b) rfl j v hj
  rw [Addr.add_lit, Nat.zero_add] at this
  exact this
theorem St.find (hS : St X w0 m0 w es m) {b off : Nat} {v : Value} (h : Find es m b off v) : w.cell? ⟨b, off, none⟩ = some v := by
  cases h with
  | box h1 h2 =>
    obtain ⟨i, hi⟩ := List.getElem?_of_mem h1
    exact ((hS.box i hi).get off v h2).1
  | mem h => exact hS.inw _ _ h
  | row h1 h2 => exact hS.rowCell h1 off v h2
inductive Finds (es : List Ent) (m : Mem) (b off n : Nat) (vs : List Value) : Prop
  | box {cs : List Value} : Ent.box b cs ∈ es → SubL cs off n vs → Finds es m b off n vs
  | mem : vs.length = n → (∀ j v, vs[j]? = some v → m ⟨b, off + j, none⟩ = some v) → Finds es m b off n vs
  | row {e : TypeId} {size k c : Nat} {xs : List Value} : Ent.row e size (.slice (some ⟨b, 0, none⟩) k c) k xs ∈ es → (∀ j v, vs[j]? = some v → xs[off + j]? = some v) → vs.length = n → Finds es m b off n vs
theorem Finds.mem2 {es : List Ent} {m : Mem} {b off n : Nat} {vs : List Value} (h2 : ∀ j v, vs[j]? = some v → m ⟨b, off + j, none⟩ = some v) (h1 : vs.length = n) : Finds es m b off n vs := .mem h1 h2
theorem St.finds (hS : St X w0 m0 w es m) {b off n : Nat} {vs : List Value} (h : Finds es m b off n vs) : vs.length = n ∧ w.rangeAt b off vs := by
  cases h with
  | box h1 h2 =>
    obtain ⟨i, hi⟩ := List.getElem?_of_mem h1
    refine ⟨h2.eq.1, fun j v hj => ((hS.box i hi).get _ v ?_).1⟩
    have hl := (List.getElem?_eq_some_iff.1 hj).1
    rw [← h2.eq.2, List.getElem?_take_of_lt hl, List.getElem?_drop] at hj
    exact hj
  | mem h1 h2 => exact ⟨h1, fun j v hj => hS.inw _ _ (h2 j v hj)⟩
  | row h1 h2 h3 => exact ⟨h3, fun j v hj => hS.rowCell h1 _ v (h2 j v hj)⟩
theorem step_guard (hw : Region.wanted o (yielded ops a.tmps) = true) (h : o.wp P a w K Q) : if Region.wanted o (yielded ops a.tmps) = true then o.wp P a w K Q else K (a.put o.dst undef) w := by rw [if_pos hw]; exact h
theorem step_of {E : Prop} (hg : o.guard = none) (h : o.wp P a w K Q) : if Region.wanted o (yielded ops a.tmps) = true then o.wp P a w K Q else E := by rw [if_pos (by simp [Region.wanted, hg])]; exact h
theorem a_load (hS : St X w0 m0 w es m) (ty : TypeId) (x : Operand) (ho : o.op = .load ty x) {d : TypeDesc} (hu : P.underlying ty = some d) (hd : d.isRow = false) {b off : Nat} (hx : a.eval x = .pointer (some ⟨b, off, none⟩)) {v : Value} (hv : Find es m b off v)
    (h : K (a.put o.dst v) w) : o.wp P a w K Q := op_load ty x ho b off hx v (hS.find hv) d hu hd h
theorem a_loads (hS : St X w0 m0 w es m) (ty : TypeId) (x : Operand) (ho : o.op = .load ty x) {d : TypeDesc} (hu : P.underlying ty = some d) (hd : d.isRow = true) (n : Nat) (hn : (P.info? ty).map (·.size) = some n) {b off : Nat} (hx : a.eval x = .pointer (some ⟨b, off, none⟩)) {vs : List Value} (hv : Finds es m b off n vs)
    (h : K (a.put o.dst (.agg vs.toArray)) w) : o.wp P a w K Q :=
  wp_load_mid ty x ho b off hx vs d (hS.finds hv).2 hu hd (by rw [(hS.finds hv).1]; exact hn) h
theorem a_store (hS : St X w0 m0 w es m) (ty : TypeId) (x y : Operand) (ho : o.op = .store ty x y) (hn : (P.info? ty).map (·.size) = some 1) {b off : Nat} (hx : a.eval x = .pointer (some ⟨b, off, none⟩)) {v : Value} (hy : a.eval y = v) (h1 : v.oneCell' = true) {cs cs' : List Value} {es' : List Ent}
    (hU : UpdB es b cs cs' es') (hs : SetsL cs off [v] cs') (h : ∀ w', St X w0 m0 w' es' m → K (a.put o.dst undef) w') : o.wp P a w K Q := by
  obtain ⟨i, hi, rfl⟩ := hU.at
  obtain ⟨h2, h3⟩ := hs.eq
  subst h3
  simp at h2
  refine op_store_box hS ty x y ho b off hx v hy h1 i cs hi (by omega) hn fun w' hw => h w' ?_
  have e : cs.set off v = cs.take off ++ [v] ++ cs.drop (off + [v].length) := by
    apply List.ext_getElem?
    intro j
    rw [List.getElem?_set, List.append_assoc, List.getElem?_append, List.length_take, Nat.min_eq_left (by omega)]
    by_cases hj : j < off
    · rw [if_neg (by omega), if_pos hj, List.getElem?_take_of_lt hj]
    · rw [if_neg hj]
      by_cases hj2 : off = j
      · subst hj2; simp [show off < cs.length by omega]
      · rw [if_neg hj2, List.getElem?_append_right (by simp; omega), List.getElem?_drop]
        congr 1
        simp; omega
  rw [← e]
  exact hw
theorem a_stores (hS : St X w0 m0 w es m) (ty : TypeId) (x y : Operand) (ho : o.op = .store ty x y) (n : Nat) (hn : (P.info? ty).map (·.size) = some n) {b off : Nat} (hx : a.eval x = .pointer (some ⟨b, off, none⟩)) {vs : List Value} (hy : a.eval y = .agg vs.toArray) (hl : vs.length = n) (h1 : ∀ v ∈ vs, v.oneCell' = true) {cs cs' : List Value} {es' : List Ent}
    (hU : UpdB es b cs cs' es') (hs : SetsL cs off vs cs') (h : ∀ w', St X w0 m0 w' es' m → K (a.put o.dst undef) w') : o.wp P a w K Q := by
  obtain ⟨i, hi, rfl⟩ := hU.at
  obtain ⟨h2, h3⟩ := hs.eq
  subst h3
  exact op_stores_box hS ty x y ho b off hx vs hy h1 i cs hi h2 (by rw [hl]; exact hn) fun w' hw => h w' hw
theorem a_append (hS : St X w0 m0 w es m) {t e : TypeId} {size bytes : Nat} {z : Value} (hE : Elem P t e size bytes z) (s x : Operand) (ho : o.op = .call { callee := .builtin .append, args := #[s, x], argTypes := #[t, t] })
    {v : Value} {n : Nat} {xs : List Value} {p : Option Addr} {k c : Nat} {news : List Value} {f : Value → Nat → List Value → List Ent} (hs : a.eval s = v) (hi : RowAt es e size v n xs f) (hx : a.eval x = .slice p k c) (hl : news.length = k * size)
    (hp : p = none → k = 0 ∧ c = 0) (hnews : ∀ ad, p = some ad → ∀ j u, news[j]? = some u → w.cell? (ad.add j) = some u) (h1 : ∀ u ∈ news, u.oneCell' = true) (h63 : n + k ≤ maxLen) (hbytes : (n + k) * bytes ≤ 140737488355328)
    (h : ∀ w' v', St X w0 m0 w' (f v' (n + k) (xs ++ news)) m → K (a.put o.dst v') w') : o.wp P a w K Q := by
  obtain ⟨i, hi1, hf⟩ := hi.at
  refine op_append hS hE s x ho i v n xs hi1 hs p k c hx news hl hp hnews h1 h63 hbytes fun w' v' hw => h w' v' ?_
  rw [hf]
  exact hw
/-- The same, onto nil: a row of its own begins. -/
theorem St.nilRow (hS : St X w0 m0 w es m) (e : TypeId) (size : Nat) : St X w0 m0 w (.row e size (.slice none 0 0) 0 [] :: es) m :=
  hS.add _ ⟨rfl, rfl, rfl, Nat.le_refl _, fun _ _ _ => rfl⟩ (World.ownsRow_nil w 0 e size) (fun b hb => by simp [Ent.blk, Value.ownBlock] at hb)
theorem a_append_nil (hS : St X w0 m0 w es m) {t e : TypeId} {size bytes : Nat} {z : Value} (hE : Elem P t e size bytes z) (s x : Operand) (ho : o.op = .call { callee := .builtin .append, args := #[s, x], argTypes := #[t, t] })
    {p : Option Addr} {k c : Nat} {news : List Value} (hs : a.eval s = .slice none 0 0) (hx : a.eval x = .slice p k c) (hl : news.length = k * size)
    (hp : p = none → k = 0 ∧ c = 0) (hnews : ∀ ad, p = some ad → ∀ j u, news[j]? = some u → w.cell? (ad.add j) = some u) (h1 : ∀ u ∈ news, u.oneCell' = true) (h63 : k ≤ maxLen) (hbytes : k * bytes ≤ 140737488355328)
    (h : ∀ w' v', St X w0 m0 w' (.row e size v' k news :: es) m → K (a.put o.dst v') w') : o.wp P a w K Q :=
  a_append (hS.nilRow e size) hE s x ho hs .head hx hl hp hnews h1 (by omega) (by rw [Nat.zero_add]; exact hbytes) fun w' v' hw => h w' v' (by simpa using hw)
section
variable {rest : List Oper} {dst : Option Tmp} {rt : TypeId} {pos : String} {af : Array Edge} {g : Nat × Bool}
theorem l_box {ty : TypeId} {y : Operand} (hS : St X w0 m0 w es m) {cs : List Value} {v : Value} (hy : a.eval y = v) (hc : v.cells = cs.toArray) (h : ∀ w' b, St X w0 m0 w' (.box b cs :: es) m → wpList P ops Q rest (a.put dst (.pointer (some ⟨b, 0, none⟩))) w') : wpList P ops Q (⟨dst, .box ty y, rt, pos, af, none⟩ :: rest) a w :=
  wpList_plain rfl fun K hK => op_box hS ty y rfl cs (by rw [hy]; exact hc) fun w' b hw => hK _ _ (h w' b hw)
theorem l_alloc {ty : TypeId} (hS : St X w0 m0 w es m) (z : Value) (cs : List Value) (hz : (P.info? ty).bind (·.zero) = some z) (hc : z.cells = cs.toArray) (h : ∀ w' b, St X w0 m0 w' (.box b cs :: es) m → wpList P ops Q rest (a.put dst (.pointer (some ⟨b, 0, none⟩))) w') : wpList P ops Q (⟨dst, .alloc ty, rt, pos, af, none⟩ :: rest) a w :=
  wpList_plain rfl fun K hK => op_alloc hS ty rfl z hz cs hc fun w' b hw => hK _ _ (h w' b hw)
theorem l_load {ty : TypeId} {x : Operand} (hS : St X w0 m0 w es m) {d : TypeDesc} (hu : P.underlying ty = some d) (hd : d.isRow = false) {b off : Nat} (hx : a.eval x = .pointer (some ⟨b, off, none⟩)) {v : Value} (hv : Find es m b off v)
    (h : wpList P ops Q rest (a.put dst v) w) : wpList P ops Q (⟨dst, .load ty x, rt, pos, af, none⟩ :: rest) a w := wpList_plain rfl fun K hK => a_load hS ty x rfl hu hd hx hv (hK _ _ h)
theorem g_load {ty : TypeId} {x : Operand} (hS : St X w0 m0 w es m) {d : TypeDesc} (hu : P.underlying ty = some d) (hd : d.isRow = false) (hw : Region.wanted ⟨dst, .load ty x, rt, pos, af, some g⟩ (yielded ops a.tmps) = true) {b off : Nat} (hx : a.eval x = .pointer (some ⟨b, off, none⟩)) {v : Value} (hv : Find es m b off v)
    (h : wpList P ops Q rest (a.put dst v) w) : wpList P ops Q (⟨dst, .load ty x, rt, pos, af, some g⟩ :: rest) a w := wpList_step fun K hK => step_guard hw (a_load hS ty x rfl hu hd hx hv (hK _ _ h))
theorem l_loads {ty : TypeId} {x : Operand} (hS : St X w0 m0 w es m) {n : Nat} (hn : ∃ d, P.underlying ty = some d ∧ d.isRow = true ∧ (P.info? ty).map (·.size) = some n) {b off : Nat} (hx : a.eval x = .pointer (some ⟨b, off, none⟩)) {vs : List Value} (hv : Finds es m b off n vs)
    (h : wpList P ops Q rest (a.put dst (.agg vs.toArray)) w) : wpList P ops Q (⟨dst, .load ty x, rt, pos, af, none⟩ :: rest) a w := by
  obtain ⟨d, hu, hd, hn⟩ := hn
  exact wpList_plain rfl fun K hK => a_loads hS ty x rfl hu hd n hn hx hv (hK _ _ h)
theorem g_loads {ty : TypeId} {x : Operand} (hS : St X w0 m0 w es m) {n : Nat} (hn : ∃ d, P.underlying ty = some d ∧ d.isRow = true ∧ (P.info? ty).map (·.size) = some n) (hw : Region.wanted ⟨dst, .load ty x, rt, pos, af, some g⟩ (yielded ops a.tmps) = true) {b off : Nat} (hx : a.eval x = .pointer (some ⟨b, off, none⟩)) {vs : List Value} (hv : Finds es m b off n vs)
    (h : wpList P ops Q rest (a.put dst (.agg vs.toArray)) w) : wpList P ops Q (⟨dst, .load ty x, rt, pos, af, some g⟩ :: rest) a w := by
  obtain ⟨d, hu, hd, hn⟩ := hn
  exact wpList_step fun K hK => step_guard hw (a_loads hS ty x rfl hu hd n hn hx hv (hK _ _ h))
theorem l_store {ty : TypeId} {x y : Operand} (hS : St X w0 m0 w es m) (hn : ∃ d, P.underlying ty = some d ∧ d.isRow = false ∧ (P.info? ty).map (·.size) = some 1) {b off : Nat} (hx : a.eval x = .pointer (some ⟨b, off, none⟩)) {v : Value} (hy : a.eval y = v) (h1 : v.oneCell' = true) {cs cs' : List Value} {es' : List Ent}
    (hM : Ent.box b cs ∈ es) (hs : SetsL cs off [v] cs') (hU : UpdB es b cs cs' es') (h : ∀ w', St X w0 m0 w' es' m → wpList P ops Q rest (a.put dst undef) w') : wpList P ops Q (⟨dst, .store ty x y, rt, pos, af, none⟩ :: rest) a w := by
  obtain ⟨d, hu, hd, hn⟩ := hn
  exact wpList_plain rfl fun K hK => a_store hS ty x y rfl hn hx hy h1 hU hs fun w' hw => hK _ _ (h w' hw)
theorem l_stores {ty : TypeId} {x y : Operand} (hS : St X w0 m0 w es m) {n : Nat} (hn : ∃ d, P.underlying ty = some d ∧ d.isRow = true ∧ (P.info? ty).map (·.size) = some n) {b off : Nat} (hx : a.eval x = .pointer (some ⟨b, off, none⟩)) {vs : List Value} (hy : a.eval y = .agg vs.toArray) (hl : vs.length = n) (h1 : ∀ v ∈ vs, v.oneCell' = true) {cs cs' : List Value} {es' : List Ent}
    (hM : Ent.box b cs ∈ es) (hs : SetsL cs off vs cs') (hU : UpdB es b cs cs' es') (h : ∀ w', St X w0 m0 w' es' m → wpList P ops Q rest (a.put dst undef) w') : wpList P ops Q (⟨dst, .store ty x y, rt, pos, af, none⟩ :: rest) a w := by
  obtain ⟨d, hu, hd, hn⟩ := hn
  exact wpList_plain rfl fun K hK => a_stores hS ty x y rfl n hn hx hy hl h1 hU hs fun w' hw => hK _ _ (h w' hw)
theorem s_box {E : Prop} {ty : TypeId} {y : Operand} (hS : St X w0 m0 w es m) {cs : List Value} {v : Value} (hy : a.eval y = v) (hc : v.cells = cs.toArray) (h : ∀ w' b, St X w0 m0 w' (.box b cs :: es) m → K (a.put dst (.pointer (some ⟨b, 0, none⟩))) w') : if Region.wanted ⟨dst, .box ty y, rt, pos, af, none⟩ (yielded ops a.tmps) = true then Oper.wp P ⟨dst, .box ty y, rt, pos, af, none⟩ a w K Q else E :=
  step_of rfl (op_box hS ty y rfl cs (by rw [hy]; exact hc) fun w' b hw => h w' b hw)
theorem s_alloc {E : Prop} {ty : TypeId} (hS : St X w0 m0 w es m) (z : Value) (cs : List Value) (hz : (P.info? ty).bind (·.zero) = some z) (hc : z.cells = cs.toArray) (h : ∀ w' b, St X w0 m0 w' (.box b cs :: es) m → K (a.put dst (.pointer (some ⟨b, 0, none⟩))) w') : if Region.wanted ⟨dst, .alloc ty, rt, pos, af, none⟩ (yielded ops a.tmps) = true then Oper.wp P ⟨dst, .alloc ty, rt, pos, af, none⟩ a w K Q else E :=
  step_of rfl (op_alloc hS ty rfl z hz cs hc fun w' b hw => h w' b hw)
theorem s_store {E : Prop} {ty : TypeId} {x y : Operand} (hS : St X w0 m0 w es m) (hn : ∃ d, P.underlying ty = some d ∧ d.isRow = false ∧ (P.info? ty).map (·.size) = some 1) {b off : Nat} (hx : a.eval x = .pointer (some ⟨b, off, none⟩)) {v : Value} (hy : a.eval y = v) (h1 : v.oneCell' = true) {cs cs' : List Value} {es' : List Ent}
    (hM : Ent.box b cs ∈ es) (hs : SetsL cs off [v] cs') (hU : UpdB es b cs cs' es') (h : ∀ w', St X w0 m0 w' es' m → K (a.put dst undef) w') : if Region.wanted ⟨dst, .store ty x y, rt, pos, af, none⟩ (yielded ops a.tmps) = true then Oper.wp P ⟨dst, .store ty x y, rt, pos, af, none⟩ a w K Q else E := by
  obtain ⟨d, hu, hd, hn⟩ := hn
  exact step_of rfl (a_store hS ty x y rfl hn hx hy h1 hU hs fun w' hw => h w' hw)
theorem s_stores {E : Prop} {ty : TypeId} {x y : Operand} (hS : St X w0 m0 w es m) {n : Nat} (hn : ∃ d, P.underlying ty = some d ∧ d.isRow = true ∧ (P.info? ty).map (·.size) = some n) {b off : Nat} (hx : a.eval x = .pointer (some ⟨b, off, none⟩)) {vs : List Value} (hy : a.eval y = .agg vs.toArray) (hl : vs.length = n) (h1 : ∀ v ∈ vs, v.oneCell' = true) {cs cs' : List Value} {es' : List Ent}
    (hM : Ent.box b cs ∈ es) (hs : SetsL cs off vs cs') (hU : UpdB es b cs cs' es') (h : ∀ w', St X w0 m0 w' es' m → K (a.put dst undef) w') : if Region.wanted ⟨dst, .store ty x y, rt, pos, af, none⟩ (yielded ops a.tmps) = true then Oper.wp P ⟨dst, .store ty x y, rt, pos, af, none⟩ a w K Q else E := by
  obtain ⟨d, hu, hd, hn⟩ := hn
  exact step_of rfl (a_stores hS ty x y rfl n hn hx hy hl h1 hU hs fun w' hw => h w' hw)
end
/-- Cells that xs lie in. -/
def CellsOf {α : Type} (L : Lay α) (m : Mem) (cells : List Value) (xs : List α) : Prop := ∃ css : List (List Value), cells = css.flatten ∧ css.length = xs.length ∧ ∀ (i : Nat) cs x, css[i]? = some cs → xs[i]? = some x → L.rd m cs x
theorem CellsOf.nil {α : Type} (L : Lay α) (m : Mem) : CellsOf L m [] [] := ⟨[], rfl, rfl, by simp⟩
theorem CellsOf.mono {α : Type} {L : Lay α} {m m' : Mem} {cells : List Value} {xs : List α} (hm : m.Le m') (h : CellsOf L m cells xs) : CellsOf L m' cells xs := by
  obtain ⟨css, h1, h2, h3⟩ := h
  exact ⟨css, h1, h2, fun i cs x hc hx => L.mono hm (h3 i cs x hc hx)⟩
theorem CellsOf.append {α : Type} {L : Lay α} {m : Mem} {c1 c2 : List Value} {x1 x2 : List α} (h : CellsOf L m c1 x1) (k : CellsOf L m c2 x2) : CellsOf L m (c1 ++ c2) (x1 ++ x2) := by
  obtain ⟨css, rfl, h2, h3⟩ := h
  obtain ⟨dss, rfl, k2, k3⟩ := k
  refine ⟨css ++ dss, by simp, by simp [h2, k2], fun i cs x hc hx => ?_⟩
  by_cases hi : i < css.length
  · rw [List.getElem?_append_left hi] at hc
    rw [List.getElem?_append_left (by omega)] at hx
    exact h3 i cs x hc hx
  · rw [List.getElem?_append_right (by omega)] at hc
    rw [List.getElem?_append_right (by omega)] at hx
    rw [← h2] at hx
    exact k3 _ cs x hc hx
theorem CellsOf.one {α : Type} {L : Lay α} {m : Mem} {cs : List Value} {x : α} (h : L.rd m cs x) : CellsOf L m cs [x] := by
  refine ⟨[cs], by simp, rfl, fun i c y hc hy => ?_⟩
  cases i with
  | zero => simp at hc hy; subst hc; subst hy; exact h
  | succ i => simp at hc
theorem CellsOf.snoc {α : Type} {L : Lay α} {m : Mem} {c1 c2 : List Value} {xs : List α} {x : α} (h : CellsOf L m c1 xs) (k : L.rd m c2 x) : CellsOf L m (c1 ++ c2) (xs ++ [x]) := h.append (.one k)
theorem flatten_get {n : Nat} : ∀ (css : List (List Value)), (∀ cs ∈ css, cs.length = n) → css.flatten.length = css.length * n ∧ ∀ (i : Nat) cs j v, css[i]? = some cs → cs[j]? = some v → css.flatten[i * n + j]? = some v
  | [], _ => ⟨by simp, by simp⟩
  | c :: css, h => by
    obtain ⟨h1, h2⟩ := flatten_get css (fun cs hc => h cs (by simp [hc]))
    have hc := h c (by simp)
    refine ⟨by simp [h1, hc, Nat.add_mul, Nat.add_comm], fun i cs j v hi hj => ?_⟩
    have hjl := (List.getElem?_eq_some_iff.1 hj).1
    cases i with
    | zero =>
      simp at hi; subst hi
      rw [List.flatten_cons, List.getElem?_append_left (by omega)]
      simpa using hj
    | succ i =>
      simp at hi
      rw [List.flatten_cons, List.getElem?_append_right (by rw [Nat.add_mul]; omega), ← h2 i cs j v hi hj]
      congr 1
      rw [Nat.add_mul]; omega
theorem flatten_set {n : Nat} : ∀ (css : List (List Value)) (k j : Nat) (v : Value) (cs : List Value), (∀ c ∈ css, c.length = n) → css[k]? = some cs → j < n → css.flatten.set (k * n + j) v = (css.set k (cs.set j v)).flatten
  | [], k, j, v, cs, _, hk, _ => by simp at hk
  | c :: css, 0, j, v, cs, h, hk, hj => by
    simp at hk; subst hk
    have hc := h c (by simp)
    rw [List.flatten_cons, Nat.zero_mul, Nat.zero_add, List.set_append_left _ _ (by omega)]
    simp
  | c :: css, k + 1, j, v, cs, h, hk, hj => by
    simp at hk
    have hc := h c (by simp)
    have ih := flatten_set css k j v cs (fun c hc => h c (by simp [hc])) hk hj
    rw [List.flatten_cons, List.set_append_right _ _ (by rw [hc, Nat.add_mul]; omega), List.set_cons_succ, List.flatten_cons, ← ih]
    congr 2
    rw [hc, Nat.add_mul]; omega
theorem CellsOf.lens {α : Type} {L : Lay α} {m : Mem} {css : List (List Value)} {xs : List α} (h2 : css.length = xs.length) (h3 : ∀ (i : Nat) cs x, css[i]? = some cs → xs[i]? = some x → L.rd m cs x) : ∀ c ∈ css, c.length = L.n := fun cs hc => by
  obtain ⟨i, hi⟩ := List.getElem?_of_mem hc
  have hl := (List.getElem?_eq_some_iff.1 hi).1
  exact L.len (h3 i cs _ hi (List.getElem?_eq_getElem (by omega)))
/-- An element's cells; and what lies there when one of its cells turns. -/
theorem CellsOf.get {α : Type} {L : Lay α} {m : Mem} {cells : List Value} {xs : List α} (h : CellsOf L m cells xs) (k : Nat) (hk : k < xs.length) : ∃ cs, L.rd m cs xs[k] ∧ (∀ j v, cs[j]? = some v → cells[k * L.n + j]? = some v) ∧
    ∀ (m' : Mem) (j : Nat) (v : Value), m.Le m' → j < L.n → L.rd m' (cs.set j v) xs[k] → CellsOf L m' (cells.set (k * L.n + j) v) xs := by
  obtain ⟨css, rfl, h2, h3⟩ := h
  have hl := CellsOf.lens h2 h3
  have hk2 : css[k]? = some css[k] := List.getElem?_eq_getElem (by omega)
  refine ⟨css[k], h3 k _ _ hk2 (List.getElem?_eq_getElem hk), fun j v hj => (flatten_get css hl).2 k _ j v hk2 hj, fun m' j v hle hj hr => ⟨css.set k (css[k].set j v), flatten_set css k j v _ hl hk2 hj, by simpa using h2, fun i cs x hi hx => ?_⟩⟩
  rw [List.getElem?_set] at hi
  by_cases e : k = i
  · subst e
    simp [show k < css.length by omega] at hi
    rw [List.getElem?_eq_getElem hk] at hx
    cases hx
    subst hi
    exact hr
  · rw [if_neg e] at hi
    exact L.mono hle (h3 i cs x hi hx)
theorem CellsOf.length {α : Type} {L : Lay α} {m : Mem} {cells : List Value} {xs : List α} (h : CellsOf L m cells xs) : cells.length = xs.length * L.n := by
  obtain ⟨css, rfl, h2, h3⟩ := h
  rw [(flatten_get (n := L.n) css fun cs hc => ?_).1, h2]
  obtain ⟨i, hi⟩ := List.getElem?_of_mem hc
  have hl := (List.getElem?_eq_some_iff.1 hi).1
  exact L.len (h3 i cs _ hi (List.getElem?_eq_getElem (by omega)))
theorem CellsOf.one1 {α : Type} {L : Lay α} {m : Mem} {cells : List Value} {xs : List α} (h : CellsOf L m cells xs) : ∀ v ∈ cells, v.oneCell' = true := by
  obtain ⟨css, rfl, h2, h3⟩ := h
  intro v hv
  obtain ⟨cs, hc, hv⟩ := List.mem_flatten.1 hv
  obtain ⟨i, hi⟩ := List.getElem?_of_mem hc
  have hl := (List.getElem?_eq_some_iff.1 hi).1
  exact L.one (h3 i cs _ hi (List.getElem?_eq_getElem (by omega))) v hv
theorem CellsOf.row {α : Type} {L : Lay α} {m : Mem} {b o : Nat} {cells : List Value} {xs : List α} (h : CellsOf L m cells xs) (hm : ∀ j v, cells[j]? = some v → m ⟨b, o + j, none⟩ = some v) : Row L m (some ⟨b, o, none⟩) xs := fun _ => by
  obtain ⟨css, rfl, h2, h3⟩ := h
  refine ⟨b, o, rfl, fun i x hx => ?_⟩
  have hil := (List.getElem?_eq_some_iff.1 hx).1
  have hi := List.getElem?_eq_getElem (show i < css.length by omega)
  refine ⟨_, h3 i _ x hi hx, fun j v hj => ?_⟩
  rw [Nat.add_assoc]
  refine hm _ _ ((flatten_get (n := L.n) css fun cs hc => ?_).2 i _ j v hi hj)
  obtain ⟨k, hk⟩ := List.getElem?_of_mem hc
  have hl := (List.getElem?_eq_some_iff.1 hk).1
  exact L.len (h3 k cs _ hk (List.getElem?_eq_getElem (by omega)))
/-- A row that is read, as cells. -/
theorem Row.cells {α : Type} {L : Lay α} {m : Mem} {p : Option Addr} {xs : List α} (h : Row L m p xs) : ∃ cells, CellsOf L m cells xs ∧ ∀ ad, p = some ad → ∀ j u, cells[j]? = some u → m (ad.add j) = some u := by
  rcases Nat.eq_zero_or_pos xs.length with h0 | h0
  · have := List.eq_nil_of_length_eq_zero h0
    subst this
    exact ⟨[], CellsOf.nil _ _, by simp⟩
  · obtain ⟨b, o, rfl, hc⟩ := h h0
    have hex : ∀ i, ∃ cs, ∀ x, xs[i]? = some x → L.rd m cs x ∧ ∀ j v, cs[j]? = some v → m ⟨b, o + i * L.n + j, none⟩ = some v := fun i => by
      cases hx : xs[i]? with
      | none => exact ⟨[], by simp⟩
      | some x => obtain ⟨cs, h1, h2⟩ := hc i x hx; exact ⟨cs, fun y hy => by cases hy; exact ⟨h1, h2⟩⟩
    obtain ⟨g, hg⟩ := Classical.axiomOfChoice hex
    have hget : ∀ (i : Nat) cs, ((List.range xs.length).map g)[i]? = some cs → i < xs.length ∧ cs = g i := fun i cs hi => by
      obtain ⟨hl, rfl⟩ := List.getElem?_eq_some_iff.1 hi
      exact ⟨by simpa using hl, by simp⟩
    refine ⟨((List.range xs.length).map g).flatten, ⟨_, rfl, by simp, fun i cs x hi hx => ?_⟩, fun ad e j u hj => ?_⟩
    · obtain ⟨_, rfl⟩ := hget i cs hi
      exact (hg i x hx).1
    · cases e
      rw [Addr.add_lit]
      have hlen : ∀ cs ∈ (List.range xs.length).map g, cs.length = L.n := fun cs hc => by
        obtain ⟨i, hi⟩ := List.getElem?_of_mem hc
        obtain ⟨hl, rfl⟩ := hget i cs hi
        exact L.len (hg i _ (List.getElem?_eq_getElem hl)).1
      obtain ⟨f1, f2⟩ := flatten_get (n := L.n) _ hlen
      have hjl := (List.getElem?_eq_some_iff.1 hj).1
      rw [f1] at hjl
      simp only [List.length_map, List.length_range] at hjl
      have hn : 0 < L.n := Nat.pos_of_ne_zero fun e => by rw [e] at hjl; omega
      have hq : j / L.n < xs.length := (Nat.div_lt_iff_lt_mul hn).2 hjl
      have hi : ((List.range xs.length).map g)[j / L.n]? = some (g (j / L.n)) := by simp [hq]
      obtain ⟨r1, r2⟩ := hg (j / L.n) _ (List.getElem?_eq_getElem hq)
      have hr : j % L.n < (g (j / L.n)).length := by rw [L.len r1]; exact Nat.mod_lt _ hn
      have h5 := f2 (j / L.n) _ (j % L.n) _ hi (List.getElem?_eq_getElem hr)
      have hj' : j / L.n * L.n + j % L.n = j := by rw [Nat.mul_comm]; exact Nat.div_add_mod j L.n
      rw [hj', hj] at h5
      have h6 := r2 (j % L.n) _ (List.getElem?_eq_getElem hr)
      rw [Nat.add_assoc, hj'] at h6
      rw [h6, ← h5]
/-- A row of its own is let be: what lies there is read from now on. -/
theorem St.settleRow {α : Type} {L : Lay α} (hS : St X w0 m0 w es m) (i : Nat) {e : TypeId} {v : Value} {cells : List Value} {xs : List α} (hi : es[i]? = some (.row e L.n v xs.length cells)) (hc : CellsOf L m cells xs) (hb : xs.length * L.bytes ≤ 140737488355328) :
    ∃ m', St X w0 m0 w (es.eraseIdx i) m' ∧ m.Le m' ∧ L.list.rd m' [v] xs := by
  obtain ⟨m', h1, h2, h3⟩ := hS.settle i _ hi
  refine ⟨m', h1, h2, ?_⟩
  have hown := hS.row i hi
  rcases hown.2 with ⟨rfl, h0⟩ | ⟨g, cap, cur, rfl, _, hh, k1, k2, k3, k4⟩
  · have := List.eq_nil_of_length_eq_zero h0
    subst this
    exact Lay.nil_rd L m'
  · refine ⟨_, cap, rfl, k1, k2, hb, (hc.mono h2).row fun j u hj => ?_⟩
    refine h3 _ _ rfl ?_
    have := hown.cells (g := g) rfl j u hj
    rw [Addr.add_lit] at this
    exact this
/-- A block of its own is let be. -/
theorem St.settleBox (hS : St X w0 m0 w es m) (i : Nat) {b : Nat} {cs : List Value} (hi : es[i]? = some (.box b cs)) :
    ∃ m', St X w0 m0 w (es.eraseIdx i) m' ∧ m.Le m' ∧ ∀ j v, cs[j]? = some v → m' ⟨b, j, none⟩ = some v := by
  obtain ⟨m', h1, h2, h3⟩ := hS.settle i _ hi
  exact ⟨m', h1, h2, fun j v hj => h3 _ _ rfl ((hS.box i hi).get j v hj).1⟩
/-! ### Types -/
theorem rowT2 : ∃ d, Tryz.prog.underlying 2 = some d ∧ d.isRow = false ∧ (Tryz.prog.info? 2).map (·.size) = some 1 := ⟨_, Tryz.underlying2, rfl, by kernel_rfl⟩
theorem rowT3 : ∃ d, Tryz.prog.underlying 3 = some d ∧ d.isRow = false ∧ (Tryz.prog.info? 3).map (·.size) = some 1 := ⟨_, Tryz.underlying3, rfl, by kernel_rfl⟩
theorem rowT4 : ∃ d, Tryz.prog.underlying 4 = some d ∧ d.isRow = false ∧ (Tryz.prog.info? 4).map (·.size) = some 1 := ⟨_, Tryz.underlying4, rfl, by kernel_rfl⟩
theorem rowT22 : ∃ d, Tryz.prog.underlying 22 = some d ∧ d.isRow = false ∧ (Tryz.prog.info? 22).map (·.size) = some 1 := ⟨_, Tryz.underlying22, rfl, by kernel_rfl⟩
theorem rowT24 : ∃ d, Tryz.prog.underlying 24 = some d ∧ d.isRow = true ∧ (Tryz.prog.info? 24).map (·.size) = some 3 := ⟨_, Tryz.underlying24, rfl, by kernel_rfl⟩
theorem rowT26 : ∃ d, Tryz.prog.underlying 26 = some d ∧ d.isRow = false ∧ (Tryz.prog.info? 26).map (·.size) = some 1 := ⟨_, Tryz.underlying26, rfl, by kernel_rfl⟩
theorem rowT28 : ∃ d, Tryz.prog.underlying 28 = some d ∧ d.isRow = true ∧ (Tryz.prog.info? 28).map (·.size) = some 5 := ⟨_, Tryz.underlying28, rfl, by kernel_rfl⟩
theorem rowT29 : ∃ d, Tryz.prog.underlying 29 = some d ∧ d.isRow = false ∧ (Tryz.prog.info? 29).map (·.size) = some 1 := ⟨_, Tryz.underlying29, rfl, by kernel_rfl⟩
theorem rowT30 : ∃ d, Tryz.prog.underlying 30 = some d ∧ d.isRow = false ∧ (Tryz.prog.info? 30).map (·.size) = some 1 := ⟨_, Tryz.underlying30, rfl, by kernel_rfl⟩
theorem rowT32 : ∃ d, Tryz.prog.underlying 32 = some d ∧ d.isRow = true ∧ (Tryz.prog.info? 32).map (·.size) = some 3 := ⟨_, Tryz.underlying32, rfl, by kernel_rfl⟩
theorem rowT33 : ∃ d, Tryz.prog.underlying 33 = some d ∧ d.isRow = false ∧ (Tryz.prog.info? 33).map (·.size) = some 1 := ⟨_, Tryz.underlying33, rfl, by kernel_rfl⟩
theorem rowT34 : ∃ d, Tryz.prog.underlying 34 = some d ∧ d.isRow = false ∧ (Tryz.prog.info? 34).map (·.size) = some 1 := ⟨_, Tryz.underlying34, rfl, by kernel_rfl⟩
theorem rowT36 : ∃ d, Tryz.prog.underlying 36 = some d ∧ d.isRow = true ∧ (Tryz.prog.info? 36).map (·.size) = some 4 := ⟨_, Tryz.underlying36, rfl, by kernel_rfl⟩
theorem rowT50 : ∃ d, Tryz.prog.underlying 50 = some d ∧ d.isRow = true ∧ (Tryz.prog.info? 50).map (·.size) = some 2 := ⟨_, Tryz.underlying50, rfl, by kernel_rfl⟩
theorem rowT51 : ∃ d, Tryz.prog.underlying 51 = some d ∧ d.isRow = false ∧ (Tryz.prog.info? 51).map (·.size) = some 1 := ⟨_, Tryz.underlying51, rfl, by kernel_rfl⟩
theorem rowT86 : ∃ d, Tryz.prog.underlying 86 = some d ∧ d.isRow = true ∧ (Tryz.prog.info? 86).map (·.size) = some 2 := ⟨_, Tryz.underlying86, rfl, by kernel_rfl⟩
theorem rowT102 : ∃ d, Tryz.prog.underlying 102 = some d ∧ d.isRow = true ∧ (Tryz.prog.info? 102).map (·.size) = some 4 := ⟨_, Tryz.underlying102, rfl, by kernel_rfl⟩
theorem rowT103 : ∃ d, Tryz.prog.underlying 103 = some d ∧ d.isRow = true ∧ (Tryz.prog.info? 103).map (·.size) = some 36 := ⟨_, Tryz.underlying103, rfl, by kernel_rfl⟩
theorem rowT130 : ∃ d, Tryz.prog.underlying 130 = some d ∧ d.isRow = false ∧ (Tryz.prog.info? 130).map (·.size) = some 1 := ⟨_, Tryz.underlying130, rfl, by kernel_rfl⟩
theorem rowT170 : ∃ d, Tryz.prog.underlying 170 = some d ∧ d.isRow = false ∧ (Tryz.prog.info? 170).map (·.size) = some 1 := ⟨_, Tryz.underlying170, rfl, by kernel_rfl⟩
theorem Lay.list_open {α : Type} {L : Lay α} {m : Mem} {v : Value} {xs : List α} (h : L.list.rd m [v] xs) : ∃ p c, v = .slice p xs.length c ∧ xs.length ≤ c ∧ c ≤ maxLen ∧ xs.length * L.bytes ≤ 140737488355328 ∧ Row L m p xs := by
  obtain ⟨p, c, e, h⟩ := h
  cases e
  exact ⟨p, c, rfl, h⟩
end Go.Proofs.YtnbhhdncbajkgaaGreatDoor
/- The rules of a walk: appends, literals of slices, makes, copies. -/
namespace Go.Proofs.YtnbhhdncbajkgaaGreatDoor
set_option linter.unusedVariables false
set_option linter.unusedSimpArgs false
open Go.RowKit
variable {ops : Array Oper} {P : Program} {X : List Nat} {w0 w : World} {m0 m : Mem} {es : List Ent} {o : Oper} {a : Act} {K : Act → World → Prop} {Q : Exit → Act → World → Prop}
theorem run_append_none_cap {t ty e : TypeId} {ti : TypeInfo} (ht : P.underlying t = some (.slice e)) (hi : P.info? e = some ti) {size n : Nat} {v : Value} {xs : List Value} (hown : w.ownsRow 0 e size v n xs) (c : Nat) :
    (Builtin.append_ #[t, t] ty #[v, .slice none 0 c]).run P w = .ok v w := by
  rcases hown.2 with ⟨rfl, rfl⟩ | ⟨g, cap, cur, rfl, hbg, hgg, hnc, hcm, hcs, htake⟩
  · simp [Builtin.append_, run_underlying ht, sizeOf, typeInfo, hi, Builtin.lenOf, Builtin.firstCells]
  · simp [Builtin.append_, run_underlying ht, sizeOf, typeInfo, hi, Builtin.lenOf, Builtin.firstCells, hnc, storeCells]
theorem row_form {size n : Nat} {e : TypeId} {v : Value} {xs : List Value} (h : w.ownsRow 0 e size v n xs) : ∃ q c, v = .slice q n c := by
  rcases h.2 with ⟨rfl, rfl⟩ | ⟨g, cap, cur, rfl, _⟩
  · exact ⟨_, _, rfl⟩
  · exact ⟨_, _, rfl⟩
theorem op_append' (hS : St X w0 m0 w es m) {t e : TypeId} {size bytes : Nat} {z : Value} (hE : Elem P t e size bytes z) (s x : Operand) (ho : o.op = .call { callee := .builtin .append, args := #[s, x], argTypes := #[t, t] })
    {v : Value} {n : Nat} {xs : List Value} {p : Option Addr} {k c : Nat} {news : List Value} {f : Value → Nat → List Value → List Ent} (hs : a.eval s = v) (hi : RowAt es e size v n xs f) (hx : a.eval x = .slice p k c) (hl : news.length = k * size)
    (hp : p = none → k = 0) (hnews : ∀ ad, p = some ad → ∀ j u, news[j]? = some u → w.cell? (ad.add j) = some u) (h1 : ∀ u ∈ news, u.oneCell' = true) (hbytes : (n + k) * bytes ≤ 140737488355328) (hb : 0 < bytes)
    (h' : ∀ w' q c, St X w0 m0 w' (f (.slice q (n + k) c) (n + k) (xs ++ news)) m → K (a.put o.dst (.slice q (n + k) c)) w') : o.wp P a w K Q := by
  have h : ∀ w' v', St X w0 m0 w' (f v' (n + k) (xs ++ news)) m → K (a.put o.dst v') w' := fun w' v' hw => by
    obtain ⟨i, hi1, hf⟩ := hi.at
    have hil := (List.getElem?_eq_some_iff.1 hi1).1
    obtain ⟨q, c, rfl⟩ := row_form (hw.row i (show _ = some (Ent.row e size v' (n + k) (xs ++ news)) by rw [hf]; simp [hil]))
    exact h' w' q c hw
  have h63 : n + k ≤ maxLen := by
    have := Nat.le_mul_of_pos_right (n + k) hb
    simp only [maxLen]
    omega
  cases p with
  | some ad => exact a_append hS hE s x ho hs hi hx hl (by simp) hnews h1 h63 hbytes h
  | none =>
    obtain rfl := hp rfl
    have hn0 : news = [] := List.eq_nil_of_length_eq_zero (by omega)
    subst hn0
    obtain ⟨i, hi1, hf⟩ := hi.at
    obtain ⟨ti, ht1, ht2, ht3, ht4⟩ := hE.at
    have hown := hS.row i hi1
    have hrun := run_append_none_cap (P := P) (w := w) (ty := o.type) hE.under ht1 hown c
    have h2 := h w v (by
      rw [hf]
      exact hS.set i _ (.row e size v (n + 0) (xs ++ [])) hi1 (w' := w) ⟨rfl, rfl, rfl, Nat.le_refl _, fun _ _ _ => rfl⟩ (by simpa [Ent.ok] using hown) (fun _ h => .inl h))
    unfold Oper.wp
    simp [execOp, ho, resolve, invoke, builtin, hs, hx, hrun, Result.andThen]
    exact h2
/-- What is appended is read. -/
theorem op_appendL {α : Type} {L : Lay α} (hS : St X w0 m0 w es m) {t e : TypeId} {z : Value} (hE : Elem P t e L.n L.bytes z) (s x : Operand) (ho : o.op = .call { callee := .builtin .append, args := #[s, x], argTypes := #[t, t] })
    {v xv : Value} {n : Nat} {xs : List Value} {ys : List α} {f : Value → Nat → List Value → List Ent} (hs : a.eval s = v) (hi : RowAt es e L.n v n xs f) (hx : a.eval x = xv) (hr : L.list.rd m [xv] ys) (hbytes : (n + ys.length) * L.bytes ≤ 140737488355328) (hb : 0 < L.bytes)
    (h : ∀ w' q c news, CellsOf L m news ys → St X w0 m0 w' (f (.slice q (n + ys.length) c) (n + ys.length) (xs ++ news)) m → K (a.put o.dst (.slice q (n + ys.length) c)) w') : o.wp P a w K Q := by
  obtain ⟨p, c, e1, r1, r2, r3, r4⟩ := hr
  cases e1
  obtain ⟨cells, hc, hm⟩ := r4.cells
  refine op_append' hS hE s x ho hs hi hx hc.length (fun e => ?_) (fun ad e j u hj => hS.inw _ _ (hm ad e j u hj)) hc.one1 hbytes hb fun w' q c hw => h w' q c cells hc hw
  subst e
  rcases Nat.eq_zero_or_pos ys.length with h0 | h0
  · exact h0
  · obtain ⟨b, o, e, _⟩ := r4 h0
    cases e
theorem op_appendL_nil {α : Type} {L : Lay α} (hS : St X w0 m0 w es m) {t e : TypeId} {z : Value} (hE : Elem P t e L.n L.bytes z) (s x : Operand) (ho : o.op = .call { callee := .builtin .append, args := #[s, x], argTypes := #[t, t] })
    {xv : Value} {ys : List α} (hs : a.eval s = .slice none 0 0) (hx : a.eval x = xv) (hr : L.list.rd m [xv] ys) (hb : 0 < L.bytes)
    (h : ∀ w' q c news, CellsOf L m news ys → St X w0 m0 w' (.row e L.n (.slice q ys.length c) ys.length news :: es) m → K (a.put o.dst (.slice q ys.length c)) w') : o.wp P a w K Q :=
  op_appendL (hS.nilRow e L.n) hE s x ho hs .head hx hr (by obtain ⟨p, c, e1, r1, r2, r3, r4⟩ := hr; simpa using r3) hb fun w' q c news hc hw => by simpa using h w' q c news hc (by simpa using hw)
/-- What is appended lies in a block of its own. -/
theorem op_appendB (hS : St X w0 m0 w es m) {t e : TypeId} {size bytes : Nat} {z : Value} (hE : Elem P t e size bytes z) (s x : Operand) (ho : o.op = .call { callee := .builtin .append, args := #[s, x], argTypes := #[t, t] })
    {v : Value} {n : Nat} {xs : List Value} {b k c : Nat} {cs : List Value} {f : Value → Nat → List Value → List Ent} (hs : a.eval s = v) (hi : RowAt es e size v n xs f) (hx : a.eval x = .slice (some ⟨b, 0, none⟩) k c) (hM : Ent.box b cs ∈ es) (hl : cs.length = k * size) (h1 : ∀ u ∈ cs, u.oneCell' = true)
    (hbytes : (n + k) * bytes ≤ 140737488355328) (hb : 0 < bytes) (h : ∀ w' q c, St X w0 m0 w' (f (.slice q (n + k) c) (n + k) (xs ++ cs)) m → K (a.put o.dst (.slice q (n + k) c)) w') : o.wp P a w K Q := by
  obtain ⟨i, hi2⟩ := List.getElem?_of_mem hM
  refine op_append' hS hE s x ho hs hi hx hl (by simp) (fun ad e j u hj => ?_) h1 hbytes hb h
  cases e
  rw [Addr.add_lit, Nat.zero_add]
  exact ((hS.box i hi2).get j u hj).1
/-- A literal of a slice. -/
theorem op_lit (hS : St X w0 m0 w es m) {t e : TypeId} {size bytes : Nat} {z : Value} (hE : Elem P t e size bytes z) (len : Nat) (parts : Array (Nat × Operand)) (ho : o.op = .buildSlice t len parts) (hlen : len * size ≤ 16777216) (hpos : len * size ≠ 0) (cs : List Value)
    (hf : Instr.fill (fun i => some (i * size, size)) ((Array.range (len * size)).map (z.cells[· % z.cells.size]!)) (parts.map fun (i, x) => (i, a.eval x)).toList = some cs.toArray)
    (h : ∀ w' b, St X w0 m0 w' (.box b cs :: es) m → K (a.put o.dst (.slice (some ⟨b, 0, none⟩) len len)) w') : o.wp P a w K Q := by
  obtain ⟨ti, ht1, ht2, ht3, ht4⟩ := hE.at
  have hrun : (Instr.buildSlice t len (parts.map fun (i, x) => (i, a.eval x))).run P w = .ok (.slice (some ⟨w.heap.size, 0, none⟩) len len) (w.alloc (.cells cs.toArray e)) := by
    have hn : ¬ (16777216 < len * size) := by omega
    simp only [Instr.buildSlice, Sem.run_bind, run_underlying hE.under, Result.andThen_ok, sizeOf, typeInfo, zeroValue]
    have hf2 : Instr.fill (fun i => some (i * size, size)) (Array.map (fun x => z.cells[x % z.cells.size]!) (Array.range (len * size))) (List.map (fun x => (x.fst, a.eval x.snd)) parts.toList) = some cs.toArray := by simpa using hf
    simp [ht1, ht2, ht3, hn, hpos, newRow, newObj, Sem.run_bind, Sem.run, ← World.alloc_eq]
    rw [hf2]
    rfl
  unfold Oper.wp execOp
  simp only [ho, Sem.run_bind, hrun, Result.andThen_ok, Sem.run_pure]
  exact h _ _ (hS.box_new cs e)
section
variable {rest : List Oper} {dst : Option Tmp} {rt : TypeId} {pos : String} {af : Array Edge} {E : Prop}
theorem l_append {α : Type} (L : Lay α) {t e : TypeId} {z : Value} (hE : Elem P t e L.n L.bytes z) {s x : Operand} (hS : St X w0 m0 w es m) (hb : 0 < L.bytes) {v xv : Value} {n : Nat} {xs : List Value} {ys : List α} {f : Value → Nat → List Value → List Ent}
    (hs : a.eval s = v) (hi : RowAt es e L.n v n xs f) (hx : a.eval x = xv) (hr : L.list.rd m [xv] ys) (hbytes : (n + ys.length) * L.bytes ≤ 140737488355328)
    (h : ∀ w' q c news, CellsOf L m news ys → St X w0 m0 w' (f (.slice q (n + ys.length) c) (n + ys.length) (xs ++ news)) m → wpList P ops Q rest (a.put dst (.slice q (n + ys.length) c)) w') : wpList P ops Q (⟨dst, .call { callee := .builtin .append, args := #[s, x], argTypes := #[t, t] }, rt, pos, af, none⟩ :: rest) a w :=
  wpList_plain rfl fun K hK => op_appendL hS hE s x rfl hs hi hx hr hbytes hb fun w' q c news hc hw => hK _ _ (h w' q c news hc hw)
theorem s_append {α : Type} (L : Lay α) {t e : TypeId} {z : Value} (hE : Elem P t e L.n L.bytes z) {s x : Operand} (hS : St X w0 m0 w es m) (hb : 0 < L.bytes) {v xv : Value} {n : Nat} {xs : List Value} {ys : List α} {f : Value → Nat → List Value → List Ent}
    (hs : a.eval s = v) (hi : RowAt es e L.n v n xs f) (hx : a.eval x = xv) (hr : L.list.rd m [xv] ys) (hbytes : (n + ys.length) * L.bytes ≤ 140737488355328)
    (h : ∀ w' q c news, CellsOf L m news ys → St X w0 m0 w' (f (.slice q (n + ys.length) c) (n + ys.length) (xs ++ news)) m → K (a.put dst (.slice q (n + ys.length) c)) w') : if Region.wanted ⟨dst, .call { callee := .builtin .append, args := #[s, x], argTypes := #[t, t] }, rt, pos, af, none⟩ (yielded ops a.tmps) = true then Oper.wp P ⟨dst, .call { callee := .builtin .append, args := #[s, x], argTypes := #[t, t] }, rt, pos, af, none⟩ a w K Q else E :=
  step_of rfl (op_appendL hS hE s x rfl hs hi hx hr hbytes hb fun w' q c news hc hw => h w' q c news hc hw)
theorem l_append_nil {α : Type} (L : Lay α) {t e : TypeId} {z : Value} (hE : Elem P t e L.n L.bytes z) {s x : Operand} (hS : St X w0 m0 w es m) (hb : 0 < L.bytes) {xv : Value} {ys : List α}
    (hs : a.eval s = .slice none 0 0) (hx : a.eval x = xv) (hr : L.list.rd m [xv] ys)
    (h : ∀ w' q c news, CellsOf L m news ys → St X w0 m0 w' (.row e L.n (.slice q ys.length c) ys.length news :: es) m → wpList P ops Q rest (a.put dst (.slice q ys.length c)) w') : wpList P ops Q (⟨dst, .call { callee := .builtin .append, args := #[s, x], argTypes := #[t, t] }, rt, pos, af, none⟩ :: rest) a w :=
  wpList_plain rfl fun K hK => op_appendL_nil hS hE s x rfl hs hx hr hb fun w' q c news hc hw => hK _ _ (h w' q c news hc hw)
theorem s_append_nil {α : Type} (L : Lay α) {t e : TypeId} {z : Value} (hE : Elem P t e L.n L.bytes z) {s x : Operand} (hS : St X w0 m0 w es m) (hb : 0 < L.bytes) {xv : Value} {ys : List α}
    (hs : a.eval s = .slice none 0 0) (hx : a.eval x = xv) (hr : L.list.rd m [xv] ys)
    (h : ∀ w' q c news, CellsOf L m news ys → St X w0 m0 w' (.row e L.n (.slice q ys.length c) ys.length news :: es) m → K (a.put dst (.slice q ys.length c)) w') : if Region.wanted ⟨dst, .call { callee := .builtin .append, args := #[s, x], argTypes := #[t, t] }, rt, pos, af, none⟩ (yielded ops a.tmps) = true then Oper.wp P ⟨dst, .call { callee := .builtin .append, args := #[s, x], argTypes := #[t, t] }, rt, pos, af, none⟩ a w K Q else E :=
  step_of rfl (op_appendL_nil hS hE s x rfl hs hx hr hb fun w' q c news hc hw => h w' q c news hc hw)
theorem l_appendB {t e : TypeId} {size bytes : Nat} {z : Value} (hE : Elem P t e size bytes z) {s x : Operand} (hS : St X w0 m0 w es m) (hb : 0 < bytes) {v : Value} {n : Nat} {xs : List Value} {b k c : Nat} {cs : List Value} {f : Value → Nat → List Value → List Ent} (hs : a.eval s = v) (hi : RowAt es e size v n xs f)
    (hx : a.eval x = .slice (some ⟨b, 0, none⟩) k c) (hM : Ent.box b cs ∈ es) (hl : cs.length = k * size) (h1 : ∀ u ∈ cs, u.oneCell' = true) (hbytes : (n + k) * bytes ≤ 140737488355328)
    (h : ∀ w' q c, St X w0 m0 w' (f (.slice q (n + k) c) (n + k) (xs ++ cs)) m → wpList P ops Q rest (a.put dst (.slice q (n + k) c)) w') : wpList P ops Q (⟨dst, .call { callee := .builtin .append, args := #[s, x], argTypes := #[t, t] }, rt, pos, af, none⟩ :: rest) a w :=
  wpList_plain rfl fun K hK => op_appendB hS hE s x rfl hs hi hx hM hl h1 hbytes hb fun w' q c hw => hK _ _ (h w' q c hw)
theorem s_appendB {t e : TypeId} {size bytes : Nat} {z : Value} (hE : Elem P t e size bytes z) {s x : Operand} (hS : St X w0 m0 w es m) (hb : 0 < bytes) {v : Value} {n : Nat} {xs : List Value} {b k c : Nat} {cs : List Value} {f : Value → Nat → List Value → List Ent} (hs : a.eval s = v) (hi : RowAt es e size v n xs f)
    (hx : a.eval x = .slice (some ⟨b, 0, none⟩) k c) (hM : Ent.box b cs ∈ es) (hl : cs.length = k * size) (h1 : ∀ u ∈ cs, u.oneCell' = true) (hbytes : (n + k) * bytes ≤ 140737488355328)
    (h : ∀ w' q c, St X w0 m0 w' (f (.slice q (n + k) c) (n + k) (xs ++ cs)) m → K (a.put dst (.slice q (n + k) c)) w') : if Region.wanted ⟨dst, .call { callee := .builtin .append, args := #[s, x], argTypes := #[t, t] }, rt, pos, af, none⟩ (yielded ops a.tmps) = true then Oper.wp P ⟨dst, .call { callee := .builtin .append, args := #[s, x], argTypes := #[t, t] }, rt, pos, af, none⟩ a w K Q else E :=
  step_of rfl (op_appendB hS hE s x rfl hs hi hx hM hl h1 hbytes hb fun w' q c hw => h w' q c hw)
theorem l_lit {t e : TypeId} {size bytes : Nat} {z : Value} (hE : Elem P t e size bytes z) {len : Nat} {parts : Array (Nat × Operand)} (hS : St X w0 m0 w es m) {cs : List Value} (hlen : len * size ≤ 16777216) (hpos : len * size ≠ 0)
    (hf : Instr.fill (fun i => some (i * size, size)) ((Array.range (len * size)).map (z.cells[· % z.cells.size]!)) (parts.map fun (i, x) => (i, a.eval x)).toList = some cs.toArray)
    (h : ∀ w' b, St X w0 m0 w' (.box b cs :: es) m → wpList P ops Q rest (a.put dst (.slice (some ⟨b, 0, none⟩) len len)) w') : wpList P ops Q (⟨dst, .buildSlice t len parts, rt, pos, af, none⟩ :: rest) a w :=
  wpList_plain rfl fun K hK => op_lit hS hE len parts rfl hlen hpos cs hf fun w' b hw => hK _ _ (h w' b hw)
theorem s_lit {t e : TypeId} {size bytes : Nat} {z : Value} (hE : Elem P t e size bytes z) {len : Nat} {parts : Array (Nat × Operand)} (hS : St X w0 m0 w es m) {cs : List Value} (hlen : len * size ≤ 16777216) (hpos : len * size ≠ 0)
    (hf : Instr.fill (fun i => some (i * size, size)) ((Array.range (len * size)).map (z.cells[· % z.cells.size]!)) (parts.map fun (i, x) => (i, a.eval x)).toList = some cs.toArray)
    (h : ∀ w' b, St X w0 m0 w' (.box b cs :: es) m → K (a.put dst (.slice (some ⟨b, 0, none⟩) len len)) w') : if Region.wanted ⟨dst, .buildSlice t len parts, rt, pos, af, none⟩ (yielded ops a.tmps) = true then Oper.wp P ⟨dst, .buildSlice t len parts, rt, pos, af, none⟩ a w K Q else E :=
  step_of rfl (op_lit hS hE len parts rfl hlen hpos cs hf fun w' b hw => h w' b hw)
end
end Go.Proofs.YtnbhhdncbajkgaaGreatDoor
/- Regions that draw their order, over the state of a walk: what only reads is taken first, what turns the world is branched over. -/
namespace Go.Proofs.YtnbhhdncbajkgaaGreatDoor
set_option linter.unusedVariables false
set_option linter.unusedSimpArgs false
open Go.RowKit
variable {P : Program} {X : List Nat} {w0 w : World} {m0 m : Mem} {es : List Ent}
/-- What every world of the region bears: m, and these blocks. -/
def Sx (m : Mem) (bs : List (Nat × List Value)) (w : World) : Prop := m.In w ∧ ∀ x ∈ bs, BoxIn w x.1 x.2
theorem St.sx0 (hS : St X w0 m0 w es m) : Sx m [] w := ⟨hS.inw, by simp⟩
theorem Sx.cons {bs : List (Nat × List Value)} {b : Nat} {cs : List Value} (h : Sx m bs w) (hS : St X w0 m0 w es m) (hM : Ent.box b cs ∈ es) : Sx m ((b, cs) :: bs) w :=
  ⟨h.1, fun x hx => by
    rcases List.mem_cons.1 hx with rfl | hx
    · exact (hS.has _ hM).1
    · exact h.2 x hx⟩
inductive FindX (bs : List (Nat × List Value)) (m : Mem) (b off : Nat) (v : Value) : Prop
  | box {cs : List Value} : (b, cs) ∈ bs → cs[off]? = some v → FindX bs m b off v
  | mem : m ⟨b, off, none⟩ = some v → FindX bs m b off v
theorem FindX.get {bs : List (Nat × List Value)} {b off : Nat} {v : Value} (h : FindX bs m b off v) (hw : Sx m bs w) : w.cell? ⟨b, off, none⟩ = some v := by
  cases h with
  | box h1 h2 => exact ((hw.2 _ h1).get off v h2).1
  | mem h => exact hw.1 _ _ h
inductive FindsX (bs : List (Nat × List Value)) (m : Mem) (b off n : Nat) (vs : List Value) : Prop
  | box {cs : List Value} : (b, cs) ∈ bs → SubL cs off n vs → FindsX bs m b off n vs
  | mem : (∀ j v, vs[j]? = some v → m ⟨b, off + j, none⟩ = some v) → vs.length = n → FindsX bs m b off n vs
theorem FindsX.get {bs : List (Nat × List Value)} {b off n : Nat} {vs : List Value} (h : FindsX bs m b off n vs) (hw : Sx m bs w) : vs.length = n ∧ w.rangeAt b off vs := by
  cases h with
  | box h1 h2 =>
    refine ⟨h2.eq.1, fun j v hj => ((hw.2 _ h1).get _ v ?_).1⟩
    have hl := (List.getElem?_eq_some_iff.1 hj).1
    rw [← h2.eq.2, List.getElem?_take_of_lt hl, List.getElem?_drop] at hj
    exact hj
  | mem h2 h1 => exact ⟨h1, fun j v hj => hw.1 _ _ (h2 j v hj)⟩
/-- es is rest, and x somewhere. -/
inductive Out : List Ent → Ent → List Ent → Prop
  | head {l : List Ent} {x : Ent} : Out (x :: l) x l
  | tail {l l' : List Ent} {x y : Ent} : Out l x l' → Out (y :: l) x (y :: l')
theorem Out.perm {es rest : List Ent} {x : Ent} (h : Out es x rest) : es.Perm (x :: rest) := by
  induction h with
  | head => exact .refl _
  | tail h ih => exact (List.Perm.cons _ ih).trans (List.Perm.swap _ _ _)
theorem St.perm {es' : List Ent} (hS : St X w0 m0 w es m) (hp : es.Perm es') : St X w0 m0 w es' m :=
  ⟨hS.kept, fun x hx => hS.has x (hp.mem_iff.2 hx), (hp.pairwise_iff (fun h b h1 h2 => h b h2 h1)).1 hS.apart, fun a v hv => ⟨(hS.know a v hv).1, fun x hx => (hS.know a v hv).2 x (hp.mem_iff.2 hx)⟩, hS.le, hS.new⟩
theorem St.front {x : Ent} {rest : List Ent} (hS : St X w0 m0 w es m) (h : Out es x rest) : St X w0 m0 w (x :: rest) m := hS.perm h.perm
/-- What else the call holds is forgotten. -/
theorem St.forget {x : Ent} {rest : List Ent} (hS : St X w0 m0 w es m) (h : Out es x rest) : St X w0 m0 w rest m := (hS.front h).drop _ (List.sublist_cons_self _ _)
theorem s_load {ops : Array Oper} {a : Act} {K : Act → World → Prop} {Q : Exit → Act → World → Prop} {dst : Option Tmp} {rt : TypeId} {pos : String} {af : Array Edge} {E : Prop} {ty : TypeId} {x : Operand} (hS : St X w0 m0 w es m) {d : TypeDesc} (hu : P.underlying ty = some d) (hd : d.isRow = false) {b off : Nat} (hx : a.eval x = .pointer (some ⟨b, off, none⟩)) {v : Value} (hv : Find es m b off v)
    (h : K (a.put dst v) w) : if Region.wanted ⟨dst, .load ty x, rt, pos, af, none⟩ (yielded ops a.tmps) = true then Oper.wp P ⟨dst, .load ty x, rt, pos, af, none⟩ a w K Q else E := step_of rfl (a_load hS ty x rfl hu hd hx hv h)
section
variable {l : List Oper} {md : Region.Mode} {Q : Exit → Act → World → Prop} {S : World → Prop} {fuel : Nat} {listed : Array Bool} {a : Act}
theorem getL {l : List Oper} {i : Nat} {o : Oper} (hi : l[i]? = some o) : l.toArray[i]? = some o := by simpa using hi
theorem takeL (i : Nat) {oi : Oper} {v : Value} (hi : l[i]? = some oi) (hs : Region.noSelect l.toArray = true) (hf : Region.free md l.toArray listed i = true) (hr : (Region.ready md l.toArray listed).contains i = true)
    (hQ : ∀ c a w, Q (.panic c) (a.put oi.dst v) w → Q (.panic c) a w) (hS : S w) (hw : Region.wanted oi (yielded l.toArray a.tmps) = true) (hy : ∀ w, S w → (execOp a.eval oi).run P w = .ok (.value v) w)
    (h : wpAnyH P md l.toArray Q S fuel (listed.setIfInBounds i true) (a.put oi.dst v) w) : wpAnyH P md l.toArray Q S (fuel + 1) listed a w :=
  wpAnyH_take (getL hi) hs hf hr hQ (.inl ⟨hw, hy⟩) hS h
theorem skipL (i : Nat) {oi : Oper} (hi : l[i]? = some oi) (hs : Region.noSelect l.toArray = true) (hf : Region.free md l.toArray listed i = true) (hr : (Region.ready md l.toArray listed).contains i = true)
    (hQ : ∀ c a w, Q (.panic c) (a.put oi.dst undef) w → Q (.panic c) a w) (hS : S w) (hw : Region.wanted oi (yielded l.toArray a.tmps) = false)
    (h : wpAnyH P md l.toArray Q S fuel (listed.setIfInBounds i true) (a.put oi.dst undef) w) : wpAnyH P md l.toArray Q S (fuel + 1) listed a w :=
  wpAnyH_take (getL hi) hs hf hr hQ (.inr ⟨hw, rfl⟩) hS h
theorem nz1 {α : Type} {l : List α} {i : Nat} {v : α} : l.toArray.setIfInBounds i v = (l.set i v).toArray := List.setIfInBounds_toArray ..
theorem nz2 {α : Type} {l : List α} {x v : α} : (x :: l).set 0 v = v :: l := rfl
theorem nz3 {α : Type} {l : List α} {x v : α} {i : Nat} : (x :: l).set (i + 1) v = x :: l.set i v := rfl
theorem takeG (i : Nat) {oi : Oper} {v : Value} (hi : l[i]? = some oi) (hc : (Region.noSelect l.toArray && (Region.free md l.toArray listed i && (Region.ready md l.toArray listed).contains i)) = true)
    (hw : Region.wanted oi (yielded l.toArray a.tmps) = true) (hy : ∀ w, S w → (execOp a.eval oi).run P w = .ok (.value v) w)
    (h : wpAnyH P md l.toArray (NoPanic Q) S fuel (listed.setIfInBounds i true) (a.put oi.dst v) w) (hS : S w := by assumption) : wpAnyH P md l.toArray (NoPanic Q) S (fuel + 1) listed a w := by
  simp only [Bool.and_eq_true] at hc
  exact takeL i hi hc.1 hc.2.1 hc.2.2 (fun _ _ _ h => h) hS hw hy h
theorem takeN (i : Nat) {oi : Oper} {v : Value} (hi : l[i]? = some oi) (hc : (Region.noSelect l.toArray && (Region.free md l.toArray listed i && (Region.ready md l.toArray listed).contains i)) = true)
    (hy : ∀ w, S w → (execOp a.eval oi).run P w = .ok (.value v) w)
    (h : wpAnyH P md l.toArray (NoPanic Q) S fuel (listed.setIfInBounds i true) (a.put oi.dst v) w) (hS : S w := by assumption) (hw : Region.wanted oi (yielded l.toArray a.tmps) = true := by first | rfl | (go_simp <;> fail)) : wpAnyH P md l.toArray (NoPanic Q) S (fuel + 1) listed a w :=
  takeG i hi hc hw hy h hS
theorem skipG (i : Nat) {oi : Oper} (hi : l[i]? = some oi) (hc : (Region.noSelect l.toArray && (Region.free md l.toArray listed i && (Region.ready md l.toArray listed).contains i)) = true)
    (hw : Region.wanted oi (yielded l.toArray a.tmps) = false)
    (h : wpAnyH P md l.toArray (NoPanic Q) S fuel (listed.setIfInBounds i true) (a.put oi.dst undef) w) (hS : S w := by assumption) : wpAnyH P md l.toArray (NoPanic Q) S (fuel + 1) listed a w := by
  simp only [Bool.and_eq_true] at hc
  exact skipL i hi hc.1 hc.2.1 hc.2.2 (fun _ _ _ h => h) hS hw h
theorem yield_load {o : Oper} {ty : TypeId} {x : Operand} {bs : List (Nat × List Value)} (ho : o.op = .load ty x) {d : TypeDesc} (hu : P.underlying ty = some d) (hd : d.isRow = false) {b off : Nat} (hx : a.eval x = .pointer (some ⟨b, off, none⟩)) {v : Value} (hv : FindX bs m b off v) :
    ∀ w, Sx m bs w → (execOp a.eval o).run P w = .ok (.value v) w := fun w hw => by
  unfold execOp
  simp only [ho, hx, Instr.loadAt, Instr.sureAddr, Sem.run_bind, Sem.run_pure, Result.andThen_ok, run_loadVar_one (hv.get hw) hu hd]
theorem yield_loads {o : Oper} {ty : TypeId} {x : Operand} {bs : List (Nat × List Value)} (ho : o.op = .load ty x) {n : Nat} (hn : ∃ d, P.underlying ty = some d ∧ d.isRow = true ∧ (P.info? ty).map (·.size) = some n) {b off : Nat} (hx : a.eval x = .pointer (some ⟨b, off, none⟩)) {vs : List Value} (hv : FindsX bs m b off n vs) :
    ∀ w, Sx m bs w → (execOp a.eval o).run P w = .ok (.value (.agg vs.toArray)) w := fun w hw => by
  obtain ⟨d, hu, hd, hn⟩ := hn
  unfold execOp
  simp only [ho, hx, Sem.run_bind, Sem.run_pure, Result.andThen_ok, run_loadAt_mid w b off ty vs d (hv.get hw).2 hu hd (by rw [(hv.get hw).1]; exact hn)]
theorem consL (i : Nat) {o : Oper} {rs : List Nat} (hi : l[i]? = some o)
    (h : ∀ K' : Act → World → Prop, Shut (∀ a w, S w → (S w → wpAnyH P md l.toArray Q S fuel (listed.setIfInBounds i true) a w) → K' a w) → if Region.wanted o (yielded l.toArray a.tmps) = true then Oper.wp P o a w K' Q else K' (a.put o.dst undef) w)
    (hs : AllReadyH P md l.toArray Q S fuel listed a w rs) : AllReadyH P md l.toArray Q S fuel listed a w (i :: rs) := AllReadyH.cons (getL hi) h hs
theorem startL {id : Nat} (hm : P.follows .mixedOrders = true) (hS : S w.drew) (hQ : ∀ c a w, ¬ Q (.panic c) a w → True)
    (h : S w.drew → wpAnyH P .any l.toArray (NoPanic Q) S l.toArray.size (Array.replicate l.toArray.size false) a w.drew) : (Code.region id l.toArray true).wp P Q a w :=
  wp_region_noPanic (wp_region_held_drew hm hS h)
end
/-! ### Results that lie in a block -/
theorem ret_cell {fn : Func} {R : Ending → World → Prop} {a : Act} {p : Tmp} {ty : TypeId} {b n : Nat} {vs : List Value} (h : fn.results = #[.cell p ty]) (hp : a.tmps.getD p undef = .pointer (some ⟨b, 0, none⟩)) (hS : St X w0 m0 w es m) (hM : Ent.box b vs ∈ es) (hl : vs.length = n)
    (hn : ∃ d, P.underlying ty = some d ∧ d.isRow = true ∧ (P.info? ty).map (·.size) = some n) (hd : a.defers = []) (hR : R (.returned (.agg vs.toArray)) w) : bodyPost P fn R .ret a w := by
  obtain ⟨d, h1, h2, h3⟩ := hn
  have hb : BoxIn w b vs := (hS.has _ hM).1
  have hrun := run_loadVar_mid (P := P) w b 0 ty vs d (fun j v hj => by rw [Nat.zero_add]; exact (hb.get j v hj).1) h1 h2 (by rw [hl]; exact h3)
  have hp' : a.tmps[p]?.getD undef = .pointer (some ⟨b, 0, none⟩) := by simpa using hp
  refine bodyPost_ret_by ?_ hd hR
  simp [results, h, hp', asAddr, hrun]
theorem ret_cell_tmp {fn : Func} {R : Ending → World → Prop} {a : Act} {p u : Tmp} {ty : TypeId} {b n : Nat} {vs : List Value} (h : fn.results = #[.cell p ty, .tmp u]) (hp : a.tmps.getD p undef = .pointer (some ⟨b, 0, none⟩)) (hS : St X w0 m0 w es m) (hM : Ent.box b vs ∈ es) (hl : vs.length = n)
    (hn : ∃ d, P.underlying ty = some d ∧ d.isRow = true ∧ (P.info? ty).map (·.size) = some n) (hd : a.defers = []) (hR : R (.returned (.tuple #[.agg vs.toArray, a.tmps.getD u undef])) w) : bodyPost P fn R .ret a w := by
  obtain ⟨d, h1, h2, h3⟩ := hn
  have hb : BoxIn w b vs := (hS.has _ hM).1
  have hrun := run_loadVar_mid (P := P) w b 0 ty vs d (fun j v hj => by rw [Nat.zero_add]; exact (hb.get j v hj).1) h1 h2 (by rw [hl]; exact h3)
  have hp' : a.tmps[p]?.getD undef = .pointer (some ⟨b, 0, none⟩) := by simpa using hp
  refine bodyPost_ret_by ?_ hd hR
  simp [results, h, hp', asAddr, hrun]
section
variable {X X0 : List Nat} {w0 w w' : World} {m0 m m' : Mem} {es ls ls' rest : List Ent}
theorem Ent.ok.same {x : Ent} (h : x.ok w) (hs : ∀ b, x.blk = some b → w'.heap[b]? = w.heap[b]?) : x.ok w' := by
  cases x with
  | box b cs =>
    obtain ⟨t, ht⟩ := h
    exact ⟨t, (hs b rfl).trans ht⟩
  | row e size v n xs =>
    refine ⟨h.1, ?_⟩
    rcases h.2 with h2 | ⟨g, cap, cur, rfl, hb, hg, r⟩
    · exact .inl h2
    · exact .inr ⟨g, cap, cur, rfl, hb, (hs g rfl).trans hg, r⟩
  | obj b p =>
    obtain ⟨o, ho, hp⟩ := h
    exact ⟨o, (hs b rfl).trans ho, hp⟩
theorem St.sub (h : St X0 w0 m0 w (ls ++ rest) m) : St (ls.filterMap Ent.blk) w m w ls m := by
  have hd := h.drop ls (List.sublist_append_left _ _)
  exact ⟨Kept.refl _ _, fun x hx => ⟨(hd.has x hx).1, fun b hb => .inr (List.mem_filterMap.2 ⟨x, hx, hb⟩)⟩, hd.apart, hd.know, Mem.Le.refl _, fun a v hv => .inl hv⟩
theorem St.subGe (h : St [] w0 m0 w (ls ++ rest) m) : ∀ b, b ∈ ls.filterMap Ent.blk → w0.heap.size ≤ b := fun b hb => by
  obtain ⟨x, hx, e⟩ : ∃ x ∈ ls, x.blk = some b := by simpa using hb
  simpa using (h.has x (List.mem_append.2 (.inl hx))).2 b e
/-- While things are lent, the others, and what is known, stay. -/
theorem St.keptRest {W : World} (h : St X0 w0 m0 w (ls ++ rest) m) (hk : Kept (ls.filterMap Ent.blk) w W) : (∀ y ∈ rest, y.ok W) ∧ m.In W := by
  have hX : ∀ b, b ∈ ls.filterMap Ent.blk → ∃ x ∈ ls, x.blk = some b := fun b hb => by simpa using hb
  have hap := List.pairwise_append.1 h.apart
  refine ⟨fun y hy => Ent.ok.same (h.has y (List.mem_append.2 (.inr hy))).1 fun b hb => hk.block b ((h.has y (List.mem_append.2 (.inr hy))).1.lt b hb) fun hm => ?_, fun a v hv => ?_⟩
  · obtain ⟨x, hx, e⟩ := hX b hm
    exact hap.2.2 x hx y hy b e hb
  · obtain ⟨h1, h2⟩ := h.know a v hv
    refine (World.cell?_of_block (hk.block _ (World.block_lt_of_cell? w a h1) fun hm => ?_)).trans h1
    obtain ⟨x, hx, e⟩ := hX _ hm
    exact h2 x (List.mem_append.2 (.inl hx)) e
/-- A call that is lent things: what came of them. -/
theorem St.lendL (h : St X0 w0 m0 w (ls ++ rest) m) (k : St (ls.filterMap Ent.blk) w m w' ls' m') : St X0 w0 m0 w' (ls' ++ rest) m' := by
  have hX : ∀ b, b ∈ ls.filterMap Ent.blk → ∃ x ∈ ls, x.blk = some b := fun b hb => by simpa using hb
  have hold : ∀ b, b < w0.heap.size → b ∉ X0 → b ∉ ls.filterMap Ent.blk := fun b hb hX0 hm => by
    obtain ⟨x, hx, e⟩ := hX b hm
    rcases (h.has x (List.mem_append.2 (.inl hx))).2 b e with h1 | h1
    · omega
    · exact hX0 h1
  have hap := List.pairwise_append.1 h.apart
  have hrest : ∀ y ∈ rest, ∀ b, y.blk = some b → b < w.heap.size ∧ b ∉ ls.filterMap Ent.blk := fun y hy b hb => ⟨(h.has y (List.mem_append.2 (.inr hy))).1.lt b hb, fun hm => by
    obtain ⟨x, hx, e⟩ := hX b hm
    exact hap.2.2 x hx y hy b e hb⟩
  refine ⟨⟨k.kept.os.trans h.kept.os, k.kept.tape.trans h.kept.tape, k.kept.output.trans h.kept.output, Nat.le_trans h.kept.size k.kept.size, fun b hb hn => (k.kept.block b (Nat.lt_of_lt_of_le hb h.kept.size) (hold b hb hn)).trans (h.kept.block b hb hn)⟩, fun x hx => ?_, ?_, fun a v hv => ⟨(k.know a v hv).1, fun x hx e => ?_⟩, h.le.trans k.le, fun a v hv => ?_⟩
  · rcases List.mem_append.1 hx with hx | hx
    · refine ⟨(k.has x hx).1, fun b hb => ?_⟩
      rcases (k.has x hx).2 b hb with h1 | h1
      · exact .inl (Nat.le_trans h.kept.size h1)
      · obtain ⟨y, hy, e⟩ := hX b h1
        exact (h.has y (List.mem_append.2 (.inl hy))).2 b e
    · exact ⟨Ent.ok.same (h.has x (List.mem_append.2 (.inr hx))).1 fun b hb => k.kept.block b (hrest x hx b hb).1 (hrest x hx b hb).2, (h.has x (List.mem_append.2 (.inr hx))).2⟩
  · refine List.pairwise_append.2 ⟨k.apart, hap.2.1, fun x hx y hy b h1 h2 => ?_⟩
    rcases (k.has x hx).2 b h1 with h3 | h3
    · have := (hrest y hy b h2).1; omega
    · exact (hrest y hy b h2).2 h3
  · rcases List.mem_append.1 hx with hx | hx
    · exact (k.know a v hv).2 x hx e
    · rcases k.new a v hv with h1 | h1 | h1
      · exact (h.know a v h1).2 x (List.mem_append.2 (.inr hx)) e
      · have := (hrest x hx _ e).1; omega
      · exact (hrest x hx _ e).2 h1
  · rcases k.new a v hv with h1 | h1 | h1
    · exact h.new a v h1
    · exact .inr (.inl (Nat.le_trans h.kept.size h1))
    · obtain ⟨x, hx, e⟩ := hX _ h1
      exact .inr ((h.has x (List.mem_append.2 (.inl hx))).2 _ e)
end
theorem inK64 {x : Int} (h1 : -9223372036854775808 ≤ x) (h2 : x ≤ 9223372036854775807) : InK .i64 x := by simp [InK, IntKind.min, IntKind.max, IntKind.signed, IntKind.bits]; omega
end Go.Proofs.YtnbhhdncbajkgaaGreatDoor
/- Rows of a call's own: copies into them, and what they say. -/
namespace Go.Proofs.YtnbhhdncbajkgaaGreatDoor
set_option linter.unusedVariables false
set_option linter.unusedSimpArgs false
open Go.RowKit
theorem ret_bool {a b : Bool} (h : a = b) : Ending.returned (.bool a) = .returned (.bool b) := by rw [h]
theorem bel2 {w w1 w2 : World} (h1 : Below w.heap.size w w1) (h2 : Below w1.heap.size w1 w2) : Below w.heap.size w w2 := h1.trans (h2.mono h1.size)
theorem size_alloc (w : World) (o : Obj) : (w.alloc o).heap.size = w.heap.size + 1 := by simp
theorem Own.form {k : IntKind} {e : TypeId} {w : World} {B : Nat} {v : Value} {xs : List Int} (h : Own k e w B v xs) (h0 : 0 < xs.length) : ∃ g cd, v = .slice (some ⟨g, 0, none⟩) xs.length cd ∧ B ≤ g ∧ g < w.heap.size := by
  rcases h.2 with ⟨_, hn⟩ | ⟨g, cap, cur, rfl, hb, hg, _⟩
  · omega
  · exact ⟨g, cap, rfl, hb, (Array.getElem?_eq_some_iff.1 hg).1⟩
theorem ownsRow_form {w : World} {B size n : Nat} {e : TypeId} {v : Value} {xs : List Value} (h : w.ownsRow B e size v n xs) : ∃ q c, v = .slice q n c ∧ ∀ a, q = some a → B ≤ a.block ∧ a.block < w.heap.size := by
  rcases h.2 with ⟨rfl, hn⟩ | ⟨g, cap, cur, rfl, hb, hg, _⟩
  · exact ⟨none, 0, by rw [hn], by simp⟩
  · exact ⟨_, cap, rfl, fun a ha => by obtain rfl := Option.some.inj ha; exact ⟨hb, (Array.getElem?_eq_some_iff.1 hg).1⟩⟩
theorem ownsRow_base {w : World} {B B' size n : Nat} {e : TypeId} {v : Value} {xs : List Value} (h : w.ownsRow B e size v n xs) (hb : B' ≤ B) : w.ownsRow B' e size v n xs := by
  refine ⟨h.1, ?_⟩
  rcases h.2 with h2 | ⟨g, cap, cur, rfl, hg, r⟩
  · exact .inl h2
  · exact .inr ⟨g, cap, cur, rfl, Nat.le_trans hb hg, r⟩
theorem ownsRow_head {w : World} {B size n : Nat} {e : TypeId} {q : Option Addr} {m c : Nat} {xs : List Value} (h : w.ownsRow B e size (.slice q m c) n xs) (h0 : 0 < n) : ∃ g, q = some ⟨g, 0, none⟩ ∧ m = n ∧ n ≤ c ∧ c ≤ maxLen ∧ B ≤ g ∧ (∀ j u, xs[j]? = some u → w.cell? ⟨g, j, none⟩ = some u ∧ w.frozen? ⟨g, j, none⟩ = false) := by
  have hc := fun g hg => World.ownsRow.cells h (g := g) hg
  rcases h.2 with ⟨e, hn⟩ | ⟨g, cap, cur, e, hb, hg, h1, h2, h3, h4⟩
  · omega
  · cases e
    refine ⟨g, rfl, rfl, h1, h2, hb, fun j u hj => ⟨?_, frozen_of_row w g _ _ _ hg⟩⟩
    have := hc g rfl j u hj
    rwa [Addr.add_lit, Nat.zero_add] at this
theorem grownBy_set (w : World) (a : Addr) (v : Value) : w.grownBy (w.setCell a v) (some a.block) :=
  ⟨rfl, rfl, rfl, by simp, fun k _ hne => heap_setCell_other w a k v fun e => hne (by rw [e])⟩
theorem ownsRow_set {w : World} {B size n g c : Nat} {e : TypeId} {xs : List Value} (h : w.ownsRow B e size (.slice (some ⟨g, 0, none⟩) n c) n xs) (j : Nat) (v : Value) (hj : j < n * size) :
    (w.setCell ⟨g, j, none⟩ v).ownsRow B e size (.slice (some ⟨g, 0, none⟩) n c) n (xs.set j v) := by
  refine ⟨by rw [List.length_set]; exact h.1, ?_⟩
  rcases h.2 with ⟨e, _⟩ | ⟨g', cap, cur, e, hb, hg, h1, h2, h3, h4⟩
  · cases e
  · cases e
    refine .inr ⟨g, c, cur.setIfInBounds j v, rfl, hb, heap_setCell_same w g j cur _ v hg, h1, h2, by simpa using h3, ?_⟩
    rw [Array.toList_setIfInBounds, ← h4, List.take_set]
theorem splice_take {α : Type} (l Z : List α) (off n : Nat) (h : off + Z.length ≤ n) (hl : off ≤ l.length) : (splice l off Z).take n = splice (l.take n) off Z := by
  simp only [splice]
  have e1 : (l.take off).take n = (l.take n).take off := by rw [List.take_take, List.take_take, Nat.min_comm]
  have e2 : (l.take off).length = off := by simp; omega
  rw [List.take_append, List.take_append, e1, e2, List.take_of_length_le (show Z.length ≤ n - off by omega), List.drop_take]
  congr 3
  omega
theorem splice_map {α β : Type} (f : α → β) (l Z : List α) (off : Nat) : (splice l off Z).map f = splice (l.map f) off (Z.map f) := by
  simp [splice, List.map_take, List.map_drop]
theorem run_copy_own {P : Program} (w : World) (dT sT ty elem t : TypeId) (hu : P.underlying dT = some (.slice elem)) (hsz : (P.info? elem).map (·.size) = some 1) (B : Nat)
    (g off n cd dLen dCap : Nat) (k : IntKind) (dry : List Int) (ho : Own k t w B (.slice (some ⟨g, 0, none⟩) dry.length cd) dry) (p : Option Addr) (xs : List Int) (sCap : Nat) (hr : Rd k w p xs) (hx : xs.length ≤ dLen) (hfit : off + dLen ≤ dry.length) :
    ∃ w', (Builtin.copy_ #[dT, sT] ty #[.slice (some ⟨g, off, none⟩) dLen dCap, .slice p xs.length sCap]).run P w = .ok (goInt (xs.length : Nat)) w' ∧ Own k t w' B (.slice (some ⟨g, 0, none⟩) dry.length cd) (splice dry off xs) ∧ w.grownBy w' (some g) := by
  rcases ho.2 with ⟨e, _⟩ | ⟨g', cap, cur, e, hb, hg, h1, h2, h3, h4⟩
  · cases e
  · cases e
    have hl : dry.length ≤ cur.toList.length := by
      have : (cur.toList.take (dry.length * 1)).length = dry.length := by rw [h4]; simp
      simp at this ⊢; omega
    have hmin : min xs.length dLen = xs.length := by omega
    have := run_copy_rd (P := P) w dT sT ty elem hu hsz g off dLen dCap p k xs sCap cur.toList t (by simpa using hg) hr (by rw [hmin]; omega)
    rw [hmin, List.take_of_length_le (by simpa using hx)] at this
    have hsp : (splice dry off xs).length = dry.length := length_splice _ _ _ (by omega)
    refine ⟨_, this, ?_, ⟨rfl, rfl, rfl, by simp [World.setRow], fun j _ hne => setRow_other w g j _ (fun e => hne (by rw [e]))⟩⟩
    refine ⟨by simp [hsp], .inr ⟨g, cd, (splice cur.toList off (xs.map (Value.int k))).toArray, by rw [hsp], hb, setRow_heap w g _ _ t _ hg, by rw [hsp]; exact h1, h2, ?_, ?_⟩⟩
    · rw [List.size_toArray, length_splice _ _ _ (by simp; omega)]; simpa using h3
    · rw [hsp, List.toList_toArray, splice_take _ _ _ _ (by simp; omega) (by omega), h4, splice_map]
theorem step_copy_own {P : Program} {w : World} {ops : Array Oper} {o : Oper} {a : Act} {K : Act → World → Prop} {Q : Exit → Act → World → Prop} {E : Prop} (hgd : o.guard = none) (d s : Operand) (dT sT : TypeId)
    (ho : o.op = .call { callee := .builtin .copy, args := #[d, s], argTypes := #[dT, sT] }) (elem t : TypeId) (hu : P.underlying dT = some (.slice elem)) (hsz : (P.info? elem).map (·.size) = some 1) (B : Nat)
    (g off n cd dLen dCap : Nat) (k : IntKind) (dry : List Int) (hn : dry.length = n) (hw : Own k t w B (.slice (some ⟨g, 0, none⟩) n cd) dry) (p : Option Addr) (xs : List Int) (m sCap : Nat) (hr : Rd k w p xs) (hm : xs.length = m) (hx : m ≤ dLen) (hfit : off + dLen ≤ n)
    (hd : a.eval d = .slice (some ⟨g, off, none⟩) dLen dCap) (hs : a.eval s = .slice p m sCap)
    (h : ∀ w', Own k t w' B (.slice (some ⟨g, 0, none⟩) n cd) (splice dry off xs) → w.grownBy w' (some g) → K (a.put o.dst (goInt (m : Nat))) w') :
    if Region.wanted o (yielded ops a.tmps) = true then Oper.wp P o a w K Q else E := by
  subst hn hm
  have hw' : Region.wanted o (yielded ops a.tmps) = true := by simp [Region.wanted, hgd]
  rw [if_pos hw']
  obtain ⟨w', hrun, h1, h2⟩ := run_copy_own (P := P) w dT sT o.type elem t hu hsz B g off dry.length cd dLen dCap k dry hw p xs sCap hr hx hfit
  unfold Oper.wp
  simp only [execOp, ho, resolve, invoke, builtin, hd, hs]
  simp [hd, hs, hrun, Result.andThen]
  exact h _ h1 h2
theorem grown_trans {w w1 w2 : World} {r : Option Nat} (h1 : w.grownBy w1 r) (h2 : w1.grownBy w2 r) : w.grownBy w2 r :=
  ⟨h2.os.trans h1.os, h2.tape.trans h1.tape, h2.output.trans h1.output, Nat.le_trans h1.size h2.size, fun k hk hne => (h2.block k (Nat.lt_of_lt_of_le hk h1.size) hne).trans (h1.block k hk hne)⟩
theorem grown_below {w w1 : World} {r : Option Nat} (h : Below w.heap.size w w1) : w.grownBy w1 r := ⟨h.os, h.tape, h.output, h.size, fun k hk _ => h.block k hk⟩
theorem Own.ge {k : IntKind} {e : TypeId} {w : World} {B g n c : Nat} {xs : List Int} (h : Own k e w B (.slice (some ⟨g, 0, none⟩) n c) xs) : B ≤ g ∧ g < w.heap.size ∧ n ≤ c ∧ c ≤ maxLen := by
  rcases h.2 with ⟨e, _⟩ | ⟨g', cap, cur, e, hb, hg, h1, h2, _⟩
  · cases e
  · cases e
    exact ⟨hb, (Array.getElem?_eq_some_iff.1 hg).1, by rename_i hh; simpa using h1, h2⟩
end Go.Proofs.YtnbhhdncbajkgaaGreatDoor
/- The rules of a walk: copy into a row of the call's own; parts of what is read. -/
namespace Go.Proofs.YtnbhhdncbajkgaaGreatDoor
set_option linter.unusedVariables false
set_option linter.unusedSimpArgs false
open Go.RowKit
variable {ops : Array Oper} {P : Program} {X : List Nat} {w0 w : World} {m0 m : Mem} {es : List Ent} {o : Oper} {a : Act} {K : Act → World → Prop} {Q : Exit → Act → World → Prop}
theorem op_copyR (hS : St X w0 m0 w es m) (d s : Operand) (dT sT : TypeId) (ho : o.op = .call { callee := .builtin .copy, args := #[d, s], argTypes := #[dT, sT] }) {elem t : TypeId} (hu : P.underlying dT = some (.slice elem)) (hsz : (P.info? elem).map (·.size) = some 1)
    {k : IntKind} {dry xs : List Int} {g cd off n dLen dCap : Nat} {sv : Value} {f : Value → Nat → List Value → List Ent} (hd : a.eval d = .slice (some ⟨g, off, none⟩) dLen dCap) (hi : RowAt es t 1 (.slice (some ⟨g, 0, none⟩) n cd) n (dry.map (.int k)) f) (hn : dry.length = n)
    (hs : a.eval s = sv) (hr : (Lay.int k).list.rd m [sv] xs) (hx : xs.length ≤ dLen) (hfit : off + dLen ≤ n)
    (h : ∀ w', St X w0 m0 w' (f (.slice (some ⟨g, 0, none⟩) n cd) n ((splice dry off xs).map (.int k))) m → K (a.put o.dst (.int .i64 xs.length)) w') : o.wp P a w K Q := by
  subst hn
  obtain ⟨i, hi1, hf⟩ := hi.at
  obtain ⟨p, c, e1, r1, r2, r3, r4⟩ := hr
  cases e1
  have hown : Own k t w 0 (.slice (some ⟨g, 0, none⟩) dry.length cd) dry := hS.row i hi1
  obtain ⟨w', hrun, h1, h2⟩ := run_copy_own (P := P) w dT sT o.type elem t hu hsz 0 g off dry.length cd dLen dCap k dry hown p xs c (r4.rdInt hS.inw) hx hfit
  have hk := h w' (by
    rw [hf]
    refine hS.set i _ _ hi1 h2 ?_ (fun _ h => .inl h)
    have hl : (splice dry off xs).length = dry.length := length_splice _ _ _ (by omega)
    have := h1
    unfold Own at this
    rw [hl] at this
    exact this)
  unfold Oper.wp
  simp only [execOp, ho, resolve, invoke, builtin, hd, hs]
  simp [hd, hs, hrun, Result.andThen]
  exact hk
theorem rdL_take {α : Type} {L : Lay α} {q : Option Addr} {len c : Nat} {xs : List α} (h : L.list.rd m [.slice q len c] xs) (n : Nat) (hn : n ≤ len) : L.list.rd m [.slice q n c] (xs.take n) := by
  obtain ⟨p, c', e, h1, h2, h3, h4⟩ := h
  cases e
  have hl : (xs.take n).length = n := by simp; omega
  refine ⟨q, c, by rw [hl], by omega, h2, ?_, fun h0 => ?_⟩
  · rw [hl]; exact Nat.le_trans (Nat.mul_le_mul_right _ hn) h3
  · obtain ⟨b, o, e, hc⟩ := h4 (by omega)
    refine ⟨b, o, e, fun i x hx => hc i x ?_⟩
    rw [List.getElem?_take] at hx
    split at hx
    · exact hx
    · cases hx
theorem rdL_part {α : Type} {L : Lay α} {b o len c : Nat} {xs : List α} (h : L.list.rd m [.slice (some ⟨b, o, none⟩) len c] xs) (i j : Nat) (hij : i ≤ j) (hj : j ≤ len) : L.list.rd m [.slice (some ⟨b, o + i * L.n, none⟩) (j - i) (c - i)] ((xs.take j).drop i) := by
  obtain ⟨p, c', e, h1, h2, h3, h4⟩ := h
  cases e
  have hl : ((xs.take j).drop i).length = j - i := by simp; omega
  refine ⟨_, c - i, by rw [hl], by omega, by omega, ?_, h4.part i j (by omega)⟩
  rw [hl]; exact Nat.le_trans (Nat.mul_le_mul_right _ (by omega)) h3
theorem row_head {e : TypeId} {size n c : Nat} {q : Option Addr} {xs : List Value} (h : w.ownsRow 0 e size (.slice q n c) n xs) (hn : 0 < n) : ∃ g, q = some ⟨g, 0, none⟩ ∧ n ≤ c ∧ c ≤ maxLen := by
  rcases h.2 with ⟨e1, e2⟩ | ⟨g, cap, cur, e1, _, _, h1, h2, _⟩
  · omega
  · cases e1; exact ⟨g, rfl, h1, h2⟩
theorem op_lit0 (hS : St X w0 m0 w es m) {t e : TypeId} {size bytes : Nat} {z : Value} (hE : Elem P t e size bytes z) (ho : o.op = .buildSlice t 0 #[])
    (h : ∀ w' b, St X w0 m0 w' (.row e size (.slice (some ⟨b, 0, none⟩) 0 0) 0 [] :: es) m → K (a.put o.dst (.slice (some ⟨b, 0, none⟩) 0 0)) w') : o.wp P a w K Q := by
  obtain ⟨ti, ht1, ht2, ht3, ht4⟩ := hE.at
  have hrun : (Instr.buildSlice t 0 #[]).run P w = .ok (.slice (some ⟨w.heap.size, 0, none⟩) 0 0) (w.alloc (.cells #[] e)) := by
    simp only [Instr.buildSlice, Sem.run_bind, run_underlying hE.under, Result.andThen_ok, sizeOf, typeInfo, zeroValue]
    have e1 : Array.range 0 = #[] := by decide
    simp [ht1, ht2, ht3, newRow, newObj, Sem.run_bind, Sem.run, Instr.fill, ← World.alloc_eq, e1]
  have e0 : ∀ g : Nat × Operand → Nat × Value, (Array.map g #[]) = #[] := fun g => by simp
  unfold Oper.wp execOp
  simp only [ho, Sem.run_bind, Result.andThen_ok, Sem.run_pure, e0, hrun]
  refine h _ _ (hS.add _ (grownBy_new _ _) (World.ownsRow_made w #[] 0 (Nat.zero_le _) (by simp [maxLen]) (by simp)) (fun b hb => ?_))
  simp [Ent.blk, Value.ownBlock] at hb
  omega
theorem ownsRow_set0 {w : World} {size n g c : Nat} {e : TypeId} {xs : List Value} (h : w.ownsRow 0 e size (.slice (some ⟨g, 0, none⟩) n c) n xs) (j : Nat) (v : Value) : (w.setCell ⟨g, j, none⟩ v).ownsRow 0 e size (.slice (some ⟨g, 0, none⟩) n c) n (xs.set j v) := by
  refine ⟨by rw [List.length_set]; exact h.1, ?_⟩
  rcases h.2 with ⟨e, _⟩ | ⟨g', cap, cur, e, hb, hg, h1, h2, h3, h4⟩
  · cases e
  · cases e
    refine .inr ⟨g, c, cur.setIfInBounds j v, rfl, hb, heap_setCell_same w g j cur _ v hg, h1, h2, by simpa using h3, ?_⟩
    rw [Array.toList_setIfInBounds, ← h4, List.take_set]
theorem op_storeR (hS : St X w0 m0 w es m) (ty : TypeId) (x y : Operand) (ho : o.op = .store ty x y) (hn : ∃ d, P.underlying ty = some d ∧ d.isRow = false ∧ (P.info? ty).map (·.size) = some 1) {g off : Nat} (hx : a.eval x = .pointer (some ⟨g, off, none⟩)) {v : Value} (hy : a.eval y = v) (h1 : v.oneCell' = true)
    {e : TypeId} {size n c : Nat} {xs : List Value} {f : Value → Nat → List Value → List Ent} (hi : RowAt es e size (.slice (some ⟨g, 0, none⟩) n c) n xs f) (hl : off < xs.length)
    (h : ∀ w', St X w0 m0 w' (f (.slice (some ⟨g, 0, none⟩) n c) n (xs.set off v)) m → K (a.put o.dst undef) w') : o.wp P a w K Q := by
  obtain ⟨d, _, _, hn⟩ := hn
  obtain ⟨i, hi1, hf⟩ := hi.at
  have hown := hS.row i hi1
  have hcell : w.cell? ⟨g, off, none⟩ = some xs[off] := by
    have := hown.cells (g := g) rfl off _ (List.getElem?_eq_getElem hl)
    rw [Addr.add_lit, Nat.zero_add] at this
    exact this
  have hfr : w.frozen? ⟨g, off, none⟩ = false := by
    rcases hown.2 with ⟨e, _⟩ | ⟨g', cap, cur, e, hb, hg, _⟩
    · cases e
    · cases e; exact frozen_of_row _ _ _ _ _ hg
  unfold Oper.wp execOp
  simp only [ho, hx, hy, Instr.storeAt, Instr.sureAddr, Sem.run_bind, Sem.run_pure, Result.andThen_ok, run_storeVar_one hcell hfr h1 hn]
  refine h _ ?_
  rw [hf]
  exact hS.set i _ _ hi1 (grownBy_setCell _ _ _) (ownsRow_set0 hown off v) (fun _ h => .inl h)
theorem op_make (hS : St X w0 m0 w es m) {t e : TypeId} {size bytes : Nat} {z : Value} (hE : Elem P t e size bytes z) (l c : Operand) (ho : o.op = .makeSlice t l c) (n : Nat) {kl kc : IntKind} {xl xc : Int} (hl : a.eval l = .int kl xl) (hc : a.eval c = .int kc xc) (hl2 : xl = n) (hc2 : xc = n) (hbytes : bytes * n ≤ 281474976710656) (h24 : n * size ≤ 16777216) (h63 : n ≤ maxLen)
    (h : ∀ w' b, St X w0 m0 w' (.row e size (.slice (some ⟨b, 0, none⟩) n n) n (madeCells z.cells (n * size)).toList :: es) m → K (a.put o.dst (.slice (some ⟨b, 0, none⟩) n n)) w') : o.wp P a w K Q := by
  subst hl2 hc2
  obtain ⟨ti, ht1, ht2, ht3, ht4⟩ := hE.at
  obtain ⟨w', hrun, hown, hg⟩ := run_makeSlice_full (P := P) w 0 t e ti z size hE.under ht1 ht2 ht3 kl kc n h24 (by rw [ht4]; exact hbytes) h63 (Nat.zero_le _)
  have hb : w.heap.size ≤ w.heap.size := Nat.le_refl _
  unfold Oper.wp execOp
  simp only [ho, hl, hc, Sem.run_bind, hrun, Result.andThen_ok, Sem.run_pure]
  exact h _ _ (hS.add _ hg hown (fun b hb => by simp [Ent.blk, Value.ownBlock] at hb; omega))
section
variable {rest : List Oper} {dst : Option Tmp} {rt : TypeId} {pos : String} {af : Array Edge} {E : Prop}
theorem s_copyR {d s : Operand} {dT sT elem t : TypeId} (hS : St X w0 m0 w es m) (hu : P.underlying dT = some (.slice elem)) (hsz : (P.info? elem).map (·.size) = some 1)
    {k : IntKind} {dry xs : List Int} {g cd off n dLen dCap : Nat} {sv : Value} {f : Value → Nat → List Value → List Ent} (hd : a.eval d = .slice (some ⟨g, off, none⟩) dLen dCap) (hi : RowAt es t 1 (.slice (some ⟨g, 0, none⟩) n cd) n (dry.map (.int k)) f) (hn : dry.length = n)
    (hs : a.eval s = sv) (hr : (Lay.int k).list.rd m [sv] xs) (hx : xs.length ≤ dLen) (hfit : off + dLen ≤ n)
    (h : ∀ w', St X w0 m0 w' (f (.slice (some ⟨g, 0, none⟩) n cd) n ((splice dry off xs).map (.int k))) m → K (a.put dst (.int .i64 xs.length)) w') : if Region.wanted ⟨dst, .call { callee := .builtin .copy, args := #[d, s], argTypes := #[dT, sT] }, rt, pos, af, none⟩ (yielded ops a.tmps) = true then Oper.wp P ⟨dst, .call { callee := .builtin .copy, args := #[d, s], argTypes := #[dT, sT] }, rt, pos, af, none⟩ a w K Q else E :=
  step_of rfl (op_copyR hS d s dT sT rfl hu hsz hd hi hn hs hr hx hfit h)
theorem l_copyR {d s : Operand} {dT sT elem t : TypeId} (hS : St X w0 m0 w es m) (hu : P.underlying dT = some (.slice elem)) (hsz : (P.info? elem).map (·.size) = some 1)
    {k : IntKind} {dry xs : List Int} {g cd off n dLen dCap : Nat} {sv : Value} {f : Value → Nat → List Value → List Ent} (hd : a.eval d = .slice (some ⟨g, off, none⟩) dLen dCap) (hi : RowAt es t 1 (.slice (some ⟨g, 0, none⟩) n cd) n (dry.map (.int k)) f) (hn : dry.length = n)
    (hs : a.eval s = sv) (hr : (Lay.int k).list.rd m [sv] xs) (hx : xs.length ≤ dLen) (hfit : off + dLen ≤ n)
    (h : ∀ w', St X w0 m0 w' (f (.slice (some ⟨g, 0, none⟩) n cd) n ((splice dry off xs).map (.int k))) m → wpList P ops Q rest (a.put dst (.int .i64 xs.length)) w') : wpList P ops Q (⟨dst, .call { callee := .builtin .copy, args := #[d, s], argTypes := #[dT, sT] }, rt, pos, af, none⟩ :: rest) a w :=
  wpList_plain rfl fun K hK => op_copyR hS d s dT sT rfl hu hsz hd hi hn hs hr hx hfit fun w' hw => hK _ _ (h w' hw)
theorem s_storeR {ty : TypeId} {x y : Operand} (hS : St X w0 m0 w es m) (hn : ∃ d, P.underlying ty = some d ∧ d.isRow = false ∧ (P.info? ty).map (·.size) = some 1) {g off : Nat} (hx : a.eval x = .pointer (some ⟨g, off, none⟩)) {v : Value} (hy : a.eval y = v) (h1 : v.oneCell' = true)
    {e : TypeId} {size n c : Nat} {xs : List Value} {f : Value → Nat → List Value → List Ent} (hi : RowAt es e size (.slice (some ⟨g, 0, none⟩) n c) n xs f) (hl : off < xs.length)
    (h : ∀ w', St X w0 m0 w' (f (.slice (some ⟨g, 0, none⟩) n c) n (xs.set off v)) m → K (a.put dst undef) w') : if Region.wanted ⟨dst, .store ty x y, rt, pos, af, none⟩ (yielded ops a.tmps) = true then Oper.wp P ⟨dst, .store ty x y, rt, pos, af, none⟩ a w K Q else E :=
  step_of rfl (op_storeR hS ty x y rfl hn hx hy h1 hi hl h)
theorem l_storeR {ty : TypeId} {x y : Operand} (hS : St X w0 m0 w es m) (hn : ∃ d, P.underlying ty = some d ∧ d.isRow = false ∧ (P.info? ty).map (·.size) = some 1) {g off : Nat} (hx : a.eval x = .pointer (some ⟨g, off, none⟩)) {v : Value} (hy : a.eval y = v) (h1 : v.oneCell' = true)
    {e : TypeId} {size n c : Nat} {xs : List Value} {f : Value → Nat → List Value → List Ent} (hi : RowAt es e size (.slice (some ⟨g, 0, none⟩) n c) n xs f) (hl : off < xs.length)
    (h : ∀ w', St X w0 m0 w' (f (.slice (some ⟨g, 0, none⟩) n c) n (xs.set off v)) m → wpList P ops Q rest (a.put dst undef) w') : wpList P ops Q (⟨dst, .store ty x y, rt, pos, af, none⟩ :: rest) a w :=
  wpList_plain rfl fun K hK => op_storeR hS ty x y rfl hn hx hy h1 hi hl fun w' hw => hK _ _ (h w' hw)
theorem l_make {t e : TypeId} {size bytes : Nat} {z : Value} (hE : Elem P t e size bytes z) {l c : Operand} (n : Nat) (hS : St X w0 m0 w es m) {kl kc : IntKind} {xl xc : Int} (hl : a.eval l = .int kl xl) (hc : a.eval c = .int kc xc) (hl2 : xl = n) (hc2 : xc = n) (hbytes : bytes * n ≤ 281474976710656) (h24 : n * size ≤ 16777216) (h63 : n ≤ maxLen)
    (h : ∀ w' b, St X w0 m0 w' (.row e size (.slice (some ⟨b, 0, none⟩) n n) n (madeCells z.cells (n * size)).toList :: es) m → wpList P ops Q rest (a.put dst (.slice (some ⟨b, 0, none⟩) n n)) w') : wpList P ops Q (⟨dst, .makeSlice t l c, rt, pos, af, none⟩ :: rest) a w :=
  wpList_plain rfl fun K hK => op_make hS hE l c rfl n hl hc hl2 hc2 hbytes h24 h63 fun w' b hw => hK _ _ (h w' b hw)
theorem l_lit0 {t e : TypeId} {size bytes : Nat} {z : Value} (hE : Elem P t e size bytes z) (hS : St X w0 m0 w es m)
    (h : ∀ w' b, St X w0 m0 w' (.row e size (.slice (some ⟨b, 0, none⟩) 0 0) 0 [] :: es) m → wpList P ops Q rest (a.put dst (.slice (some ⟨b, 0, none⟩) 0 0)) w') : wpList P ops Q (⟨dst, .buildSlice t 0 #[], rt, pos, af, none⟩ :: rest) a w :=
  wpList_plain rfl fun K hK => op_lit0 hS hE rfl fun w' b hw => hK _ _ (h w' b hw)
end
/-- A row of its own, cells of xs. -/
def RetRow {α : Type} (L : Lay α) (e : TypeId) (w : World) (m : Mem) (xs : List α) (en : Ending) (w' : World) : Prop :=
  ∃ q c cells, en = .returned (.slice q xs.length c) ∧ CellsOf L m cells xs ∧ St [] w m w' [.row e L.n (.slice q xs.length c) xs.length cells] m
theorem s_loads {ops : Array Oper} {a : Act} {K : Act → World → Prop} {Q : Exit → Act → World → Prop} {dst : Option Tmp} {rt : TypeId} {pos : String} {af : Array Edge} {E : Prop} {ty : TypeId} {x : Operand} (hS : St X w0 m0 w es m) {n : Nat} (hn : ∃ d, P.underlying ty = some d ∧ d.isRow = true ∧ (P.info? ty).map (·.size) = some n) {b off : Nat} (hx : a.eval x = .pointer (some ⟨b, off, none⟩)) {vs : List Value} (hv : Finds es m b off n vs)
    (h : K (a.put dst (.agg vs.toArray)) w) : if Region.wanted ⟨dst, .load ty x, rt, pos, af, none⟩ (yielded ops a.tmps) = true then Oper.wp P ⟨dst, .load ty x, rt, pos, af, none⟩ a w K Q else E := by
  obtain ⟨d, hu, hd, hn⟩ := hn
  exact step_of rfl (a_loads hS ty x rfl hu hd n hn hx hv h)
theorem Sx.le {m m' : Mem} {bs : List (Nat × List Value)} {w : World} (h : m.Le m') (k : Sx m' bs w) : Sx m bs w := ⟨fun a v hv => k.1 a v (h a v hv), k.2⟩
theorem St.leSelf {X : List Nat} {w0 w : World} {m0 m : Mem} {es : List Ent} (_ : St X w0 m0 w es m) : m.Le m := Mem.Le.refl m
end Go.Proofs.YtnbhhdncbajkgaaGreatDoor
/- The rules of the walk with a closed conclusion: the goal is not reckoned out when a rule is tried. -/
namespace Go.Proofs.YtnbhhdncbajkgaaGreatDoor
set_option linter.unusedVariables false
set_option linter.unusedSimpArgs false
open Go.RowKit
variable {ops : Array Oper} {P : Program} {X : List Nat} {w0 w : World} {m0 m : Mem} {es : List Ent} {o : Oper} {a : Act} {K : Act → World → Prop} {Q : Exit → Act → World → Prop}
variable {rest : List Oper} {dst : Option Tmp} {rt : TypeId} {pos : String} {af : Array Edge} {E : Prop} {g : Nat × Bool}
inductive Wl (P : Program) (ops : Array Oper) (Q : Exit → Act → World → Prop) (l : List Oper) (a : Act) (w : World) : Prop
  | mk : wpList P ops Q l a w → Wl P ops Q l a w
theorem Wl.out {l : List Oper} (h : Wl P ops Q l a w) : wpList P ops Q l a w := by cases h; assumption
theorem wl_box {ty : TypeId} {y : Operand} (hS : St X w0 m0 w es m) {cs : List Value} {v : Value} (hy : a.eval y = v) (hc : v.cells = cs.toArray) (h : ∀ w' b, St X w0 m0 w' (.box b cs :: es) m → wpList P ops Q rest (a.put dst (.pointer (some ⟨b, 0, none⟩))) w') : Wl P ops Q (⟨dst, .box ty y, rt, pos, af, none⟩ :: rest) a w := ⟨(
  wpList_plain rfl fun K hK => op_box hS ty y rfl cs (by rw [hy]; exact hc) fun w' b hw => hK _ _ (h w' b hw))⟩
theorem wl_alloc {ty : TypeId} (hS : St X w0 m0 w es m) (z : Value) (cs : List Value) (hz : (P.info? ty).bind (·.zero) = some z) (hc : z.cells = cs.toArray) (h : ∀ w' b, St X w0 m0 w' (.box b cs :: es) m → wpList P ops Q rest (a.put dst (.pointer (some ⟨b, 0, none⟩))) w') : Wl P ops Q (⟨dst, .alloc ty, rt, pos, af, none⟩ :: rest) a w := ⟨(
  wpList_plain rfl fun K hK => op_alloc hS ty rfl z hz cs hc fun w' b hw => hK _ _ (h w' b hw))⟩
theorem wl_load {ty : TypeId} {x : Operand} (hS : St X w0 m0 w es m) {d : TypeDesc} (hu : P.underlying ty = some d) (hd : d.isRow = false) {b off : Nat} (hx : a.eval x = .pointer (some ⟨b, off, none⟩)) {v : Value} (hv : Find es m b off v)
    (h : wpList P ops Q rest (a.put dst v) w) : Wl P ops Q (⟨dst, .load ty x, rt, pos, af, none⟩ :: rest) a w := ⟨( wpList_plain rfl fun K hK => a_load hS ty x rfl hu hd hx hv (hK _ _ h))⟩
theorem wg_load {ty : TypeId} {x : Operand} (hS : St X w0 m0 w es m) {d : TypeDesc} (hu : P.underlying ty = some d) (hd : d.isRow = false) (hw : Region.wanted ⟨dst, .load ty x, rt, pos, af, some g⟩ (yielded ops a.tmps) = true) {b off : Nat} (hx : a.eval x = .pointer (some ⟨b, off, none⟩)) {v : Value} (hv : Find es m b off v)
    (h : wpList P ops Q rest (a.put dst v) w) : Wl P ops Q (⟨dst, .load ty x, rt, pos, af, some g⟩ :: rest) a w := ⟨( wpList_step fun K hK => step_guard hw (a_load hS ty x rfl hu hd hx hv (hK _ _ h)))⟩
theorem wl_loads {ty : TypeId} {x : Operand} (hS : St X w0 m0 w es m) {n : Nat} (hn : ∃ d, P.underlying ty = some d ∧ d.isRow = true ∧ (P.info? ty).map (·.size) = some n) {b off : Nat} (hx : a.eval x = .pointer (some ⟨b, off, none⟩)) {vs : List Value} (hv : Finds es m b off n vs)
    (h : wpList P ops Q rest (a.put dst (.agg vs.toArray)) w) : Wl P ops Q (⟨dst, .load ty x, rt, pos, af, none⟩ :: rest) a w := ⟨( by
  obtain ⟨d, hu, hd, hn⟩ := hn
  exact wpList_plain rfl fun K hK => a_loads hS ty x rfl hu hd n hn hx hv (hK _ _ h))⟩
theorem wg_loads {ty : TypeId} {x : Operand} (hS : St X w0 m0 w es m) {n : Nat} (hn : ∃ d, P.underlying ty = some d ∧ d.isRow = true ∧ (P.info? ty).map (·.size) = some n) (hw : Region.wanted ⟨dst, .load ty x, rt, pos, af, some g⟩ (yielded ops a.tmps) = true) {b off : Nat} (hx : a.eval x = .pointer (some ⟨b, off, none⟩)) {vs : List Value} (hv : Finds es m b off n vs)
    (h : wpList P ops Q rest (a.put dst (.agg vs.toArray)) w) : Wl P ops Q (⟨dst, .load ty x, rt, pos, af, some g⟩ :: rest) a w := ⟨( by
  obtain ⟨d, hu, hd, hn⟩ := hn
  exact wpList_step fun K hK => step_guard hw (a_loads hS ty x rfl hu hd n hn hx hv (hK _ _ h)))⟩
theorem wl_store {ty : TypeId} {x y : Operand} (hS : St X w0 m0 w es m) (hn : ∃ d, P.underlying ty = some d ∧ d.isRow = false ∧ (P.info? ty).map (·.size) = some 1) {b off : Nat} (hx : a.eval x = .pointer (some ⟨b, off, none⟩)) {v : Value} (hy : a.eval y = v) (h1 : v.oneCell' = true) {cs cs' : List Value} {es' : List Ent}
    (hM : Ent.box b cs ∈ es) (hs : SetsL cs off [v] cs') (hU : UpdB es b cs cs' es') (h : ∀ w', St X w0 m0 w' es' m → wpList P ops Q rest (a.put dst undef) w') : Wl P ops Q (⟨dst, .store ty x y, rt, pos, af, none⟩ :: rest) a w := ⟨( by
  obtain ⟨d, hu, hd, hn⟩ := hn
  exact wpList_plain rfl fun K hK => a_store hS ty x y rfl hn hx hy h1 hU hs fun w' hw => hK _ _ (h w' hw))⟩
theorem wl_stores {ty : TypeId} {x y : Operand} (hS : St X w0 m0 w es m) {n : Nat} (hn : ∃ d, P.underlying ty = some d ∧ d.isRow = true ∧ (P.info? ty).map (·.size) = some n) {b off : Nat} (hx : a.eval x = .pointer (some ⟨b, off, none⟩)) {vs : List Value} (hy : a.eval y = .agg vs.toArray) (hl : vs.length = n) (h1 : ∀ v ∈ vs, v.oneCell' = true) {cs cs' : List Value} {es' : List Ent}
    (hM : Ent.box b cs ∈ es) (hs : SetsL cs off vs cs') (hU : UpdB es b cs cs' es') (h : ∀ w', St X w0 m0 w' es' m → wpList P ops Q rest (a.put dst undef) w') : Wl P ops Q (⟨dst, .store ty x y, rt, pos, af, none⟩ :: rest) a w := ⟨( by
  obtain ⟨d, hu, hd, hn⟩ := hn
  exact wpList_plain rfl fun K hK => a_stores hS ty x y rfl n hn hx hy hl h1 hU hs fun w' hw => hK _ _ (h w' hw))⟩
theorem wl_append {α : Type} (L : Lay α) {t e : TypeId} {z : Value} (hE : Elem P t e L.n L.bytes z) {s x : Operand} (hS : St X w0 m0 w es m) (hb : 0 < L.bytes) {v xv : Value} {n : Nat} {xs : List Value} {ys : List α} {f : Value → Nat → List Value → List Ent}
    (hs : a.eval s = v) (hi : RowAt es e L.n v n xs f) (hx : a.eval x = xv) (hr : L.list.rd m [xv] ys) (hbytes : (n + ys.length) * L.bytes ≤ 140737488355328)
    (h : ∀ w' q c news, CellsOf L m news ys → St X w0 m0 w' (f (.slice q (n + ys.length) c) (n + ys.length) (xs ++ news)) m → wpList P ops Q rest (a.put dst (.slice q (n + ys.length) c)) w') : Wl P ops Q (⟨dst, .call { callee := .builtin .append, args := #[s, x], argTypes := #[t, t] }, rt, pos, af, none⟩ :: rest) a w := ⟨(
  wpList_plain rfl fun K hK => op_appendL hS hE s x rfl hs hi hx hr hbytes hb fun w' q c news hc hw => hK _ _ (h w' q c news hc hw))⟩
theorem wl_append_nil {α : Type} (L : Lay α) {t e : TypeId} {z : Value} (hE : Elem P t e L.n L.bytes z) {s x : Operand} (hS : St X w0 m0 w es m) (hb : 0 < L.bytes) {xv : Value} {ys : List α}
    (hs : a.eval s = .slice none 0 0) (hx : a.eval x = xv) (hr : L.list.rd m [xv] ys)
    (h : ∀ w' q c news, CellsOf L m news ys → St X w0 m0 w' (.row e L.n (.slice q ys.length c) ys.length news :: es) m → wpList P ops Q rest (a.put dst (.slice q ys.length c)) w') : Wl P ops Q (⟨dst, .call { callee := .builtin .append, args := #[s, x], argTypes := #[t, t] }, rt, pos, af, none⟩ :: rest) a w := ⟨(
  wpList_plain rfl fun K hK => op_appendL_nil hS hE s x rfl hs hx hr hb fun w' q c news hc hw => hK _ _ (h w' q c news hc hw))⟩
theorem wl_appendB {t e : TypeId} {size bytes : Nat} {z : Value} (hE : Elem P t e size bytes z) {s x : Operand} (hS : St X w0 m0 w es m) (hb : 0 < bytes) {v : Value} {n : Nat} {xs : List Value} {b k c : Nat} {cs : List Value} {f : Value → Nat → List Value → List Ent} (hs : a.eval s = v) (hi : RowAt es e size v n xs f)
    (hx : a.eval x = .slice (some ⟨b, 0, none⟩) k c) (hM : Ent.box b cs ∈ es) (hl : cs.length = k * size) (h1 : ∀ u ∈ cs, u.oneCell' = true) (hbytes : (n + k) * bytes ≤ 140737488355328)
    (h : ∀ w' q c, St X w0 m0 w' (f (.slice q (n + k) c) (n + k) (xs ++ cs)) m → wpList P ops Q rest (a.put dst (.slice q (n + k) c)) w') : Wl P ops Q (⟨dst, .call { callee := .builtin .append, args := #[s, x], argTypes := #[t, t] }, rt, pos, af, none⟩ :: rest) a w := ⟨(
  wpList_plain rfl fun K hK => op_appendB hS hE s x rfl hs hi hx hM hl h1 hbytes hb fun w' q c hw => hK _ _ (h w' q c hw))⟩
theorem wl_lit {t e : TypeId} {size bytes : Nat} {z : Value} (hE : Elem P t e size bytes z) {len : Nat} {parts : Array (Nat × Operand)} (hS : St X w0 m0 w es m) {cs : List Value} (hlen : len * size ≤ 16777216) (hpos : len * size ≠ 0)
    (hf : Instr.fill (fun i => some (i * size, size)) ((Array.range (len * size)).map (z.cells[· % z.cells.size]!)) (parts.map fun (i, x) => (i, a.eval x)).toList = some cs.toArray)
    (h : ∀ w' b, St X w0 m0 w' (.box b cs :: es) m → wpList P ops Q rest (a.put dst (.slice (some ⟨b, 0, none⟩) len len)) w') : Wl P ops Q (⟨dst, .buildSlice t len parts, rt, pos, af, none⟩ :: rest) a w := ⟨(
  wpList_plain rfl fun K hK => op_lit hS hE len parts rfl hlen hpos cs hf fun w' b hw => hK _ _ (h w' b hw))⟩
theorem wl_copyR {d s : Operand} {dT sT elem t : TypeId} (hS : St X w0 m0 w es m) (hu : P.underlying dT = some (.slice elem)) (hsz : (P.info? elem).map (·.size) = some 1)
    {k : IntKind} {dry xs : List Int} {g cd off n dLen dCap : Nat} {sv : Value} {f : Value → Nat → List Value → List Ent} (hd : a.eval d = .slice (some ⟨g, off, none⟩) dLen dCap) (hi : RowAt es t 1 (.slice (some ⟨g, 0, none⟩) n cd) n (dry.map (.int k)) f) (hn : dry.length = n)
    (hs : a.eval s = sv) (hr : (Lay.int k).list.rd m [sv] xs) (hx : xs.length ≤ dLen) (hfit : off + dLen ≤ n)
    (h : ∀ w', St X w0 m0 w' (f (.slice (some ⟨g, 0, none⟩) n cd) n ((splice dry off xs).map (.int k))) m → wpList P ops Q rest (a.put dst (.int .i64 xs.length)) w') : Wl P ops Q (⟨dst, .call { callee := .builtin .copy, args := #[d, s], argTypes := #[dT, sT] }, rt, pos, af, none⟩ :: rest) a w := ⟨(
  wpList_plain rfl fun K hK => op_copyR hS d s dT sT rfl hu hsz hd hi hn hs hr hx hfit fun w' hw => hK _ _ (h w' hw))⟩
theorem wl_storeR {ty : TypeId} {x y : Operand} (hS : St X w0 m0 w es m) (hn : ∃ d, P.underlying ty = some d ∧ d.isRow = false ∧ (P.info? ty).map (·.size) = some 1) {g off : Nat} (hx : a.eval x = .pointer (some ⟨g, off, none⟩)) {v : Value} (hy : a.eval y = v) (h1 : v.oneCell' = true)
    {e : TypeId} {size n c : Nat} {xs : List Value} {f : Value → Nat → List Value → List Ent} (hi : RowAt es e size (.slice (some ⟨g, 0, none⟩) n c) n xs f) (hl : off < xs.length)
    (h : ∀ w', St X w0 m0 w' (f (.slice (some ⟨g, 0, none⟩) n c) n (xs.set off v)) m → wpList P ops Q rest (a.put dst undef) w') : Wl P ops Q (⟨dst, .store ty x y, rt, pos, af, none⟩ :: rest) a w := ⟨(
  wpList_plain rfl fun K hK => op_storeR hS ty x y rfl hn hx hy h1 hi hl fun w' hw => hK _ _ (h w' hw))⟩
theorem wl_make {t e : TypeId} {size bytes : Nat} {z : Value} (hE : Elem P t e size bytes z) {l c : Operand} (n : Nat) (hS : St X w0 m0 w es m) {kl kc : IntKind} {xl xc : Int} (hl : a.eval l = .int kl xl) (hc : a.eval c = .int kc xc) (hl2 : xl = n) (hc2 : xc = n) (hbytes : bytes * n ≤ 281474976710656) (h24 : n * size ≤ 16777216) (h63 : n ≤ maxLen)
    (h : ∀ w' b, St X w0 m0 w' (.row e size (.slice (some ⟨b, 0, none⟩) n n) n (madeCells z.cells (n * size)).toList :: es) m → wpList P ops Q rest (a.put dst (.slice (some ⟨b, 0, none⟩) n n)) w') : Wl P ops Q (⟨dst, .makeSlice t l c, rt, pos, af, none⟩ :: rest) a w := ⟨(
  wpList_plain rfl fun K hK => op_make hS hE l c rfl n hl hc hl2 hc2 hbytes h24 h63 fun w' b hw => hK _ _ (h w' b hw))⟩
theorem wl_lit0 {t e : TypeId} {size bytes : Nat} {z : Value} (hE : Elem P t e size bytes z) (hS : St X w0 m0 w es m)
    (h : ∀ w' b, St X w0 m0 w' (.row e size (.slice (some ⟨b, 0, none⟩) 0 0) 0 [] :: es) m → wpList P ops Q rest (a.put dst (.slice (some ⟨b, 0, none⟩) 0 0)) w') : Wl P ops Q (⟨dst, .buildSlice t 0 #[], rt, pos, af, none⟩ :: rest) a w := ⟨(
  wpList_plain rfl fun K hK => op_lit0 hS hE rfl fun w' b hw => hK _ _ (h w' b hw))⟩
theorem wl_unwanted {P : Program} {ops : Array Oper} {Q : Exit → Act → World → Prop} {a : Act} {w : World} {rest : List Oper} {dst : Option Tmp} {op : Op} {rt : TypeId} {pos : String} {af : Array Edge} {g : Nat × Bool}
    (hw : Region.wanted ⟨dst, op, rt, pos, af, some g⟩ (yielded ops a.tmps) = false) (h : wpList P ops Q rest (a.put dst undef) w) : Wl P ops Q (⟨dst, op, rt, pos, af, some g⟩ :: rest) a w := ⟨( wpList_skip hw h)⟩
theorem wg_case {ty : TypeId} {x : Operand} (hT : Region.wanted ⟨dst, .load ty x, rt, pos, af, some g⟩ (yielded ops a.tmps) = true → wpList P ops Q (⟨dst, .load ty x, rt, pos, af, some g⟩ :: rest) a w)
    (hF : Region.wanted ⟨dst, .load ty x, rt, pos, af, some g⟩ (yielded ops a.tmps) = false → wpList P ops Q (⟨dst, .load ty x, rt, pos, af, some g⟩ :: rest) a w) : Wl P ops Q (⟨dst, .load ty x, rt, pos, af, some g⟩ :: rest) a w := by
  cases h : Region.wanted ⟨dst, .load ty x, rt, pos, af, some g⟩ (yielded ops a.tmps) with
  | true => exact ⟨hT h⟩
  | false => exact ⟨hF h⟩
end Go.Proofs.YtnbhhdncbajkgaaGreatDoor
/- The rules of the walk at this program: what they ask besides the state is looked for by themselves. -/
namespace Go.Proofs.YtnbhhdncbajkgaaGreatDoor
set_option linter.unusedVariables false
set_option linter.unusedSimpArgs false
open Go.RowKit
variable {ops : Array Oper} {X : List Nat} {w0 w : World} {m0 m : Mem} {es : List Ent} {o : Oper} {a : Act} {K : Act → World → Prop} {Q : Exit → Act → World → Prop}
variable {rest : List Oper} {dst : Option Tmp} {rt : TypeId} {pos : String} {af : Array Edge} {E : Prop} {g : Nat × Bool}
/-- What a type's description says, of one cell. -/
abbrev One (ty : TypeId) : Prop := ∃ d, Tryz.prog.underlying ty = some d ∧ d.isRow = false ∧ (Tryz.prog.info? ty).map (·.size) = some 1
/-- The same, of a row of cells. -/
abbrev Rowy (ty : TypeId) (n : Nat) : Prop := ∃ d, Tryz.prog.underlying ty = some d ∧ d.isRow = true ∧ (Tryz.prog.info? ty).map (·.size) = some n
/-- The cells of a type's zero value. -/
abbrev Zero (ty : TypeId) (z : Value) (cs : List Value) : Prop := (Tryz.prog.info? ty).bind (·.zero) = some z ∧ z.cells = cs.toArray
theorem zeroT3 : Zero 3 (.int .i64 0) [.int .i64 0] := ⟨by kernel_rfl, rfl⟩
theorem zeroT24 : Zero 24 (.agg #[.int .i64 0, .int .i64 0, .slice none 0 0]) [.int .i64 0, .int .i64 0, .slice none 0 0] := ⟨by kernel_rfl, rfl⟩
theorem zeroT28 : Zero 28 (.agg #[.int .i64 0, .int .i64 0, .int .i64 0, .int .i64 0, .slice none 0 0]) [.int .i64 0, .int .i64 0, .int .i64 0, .int .i64 0, .slice none 0 0] := ⟨by kernel_rfl, rfl⟩
theorem zeroT32 : Zero 32 (.agg #[.int .i64 0, .slice none 0 0, .slice none 0 0]) [.int .i64 0, .slice none 0 0, .slice none 0 0] := ⟨by kernel_rfl, rfl⟩
theorem zeroT36 : Zero 36 (.agg #[.int .i64 0, .slice none 0 0, .slice none 0 0, .int .i64 0]) [.int .i64 0, .slice none 0 0, .slice none 0 0, .int .i64 0] := ⟨by kernel_rfl, rfl⟩
theorem zeroT50 : Zero 50 (.agg #[.int .i64 0, .slice none 0 0]) [.int .i64 0, .slice none 0 0] := ⟨by kernel_rfl, rfl⟩
theorem zeroT86 : Zero 86 (.agg #[.int .i64 0, .int .i64 0]) [.int .i64 0, .int .i64 0] := ⟨by kernel_rfl, rfl⟩
theorem zeroT102 : Zero 102 (.agg #[.int .i64 0, .int .i64 0, .int .i64 0, .bool false]) [.int .i64 0, .int .i64 0, .int .i64 0, .bool false] := ⟨by kernel_rfl, rfl⟩
theorem zeroT130 : Zero 130 (.slice none 0 0) [.slice none 0 0] := ⟨by kernel_rfl, rfl⟩
theorem zeroT170 : Zero 170 (.int .u64 0) [.int .u64 0] := ⟨by kernel_rfl, rfl⟩
inductive BoxS (a : Act) (y : Operand) (cs : List Value) : Prop
  | mk {v : Value} (hy : a.eval y = v := by (first | (go_simp; done) | (go_simp; with_reducible rfl))) (hc : v.cells = cs.toArray := by exact rfl) : BoxS a y cs
inductive AllocS (ty : TypeId) (cs : List Value) : Prop
  | mk {z : Value} (hz : Zero ty z cs := by first | exact zeroT3 | exact zeroT24 | exact zeroT28 | exact zeroT32 | exact zeroT36 | exact zeroT50 | exact zeroT86 | exact zeroT102 | exact zeroT130 | exact zeroT170) : AllocS ty cs
inductive LoadS (es : List Ent) (m : Mem) (a : Act) (ty : TypeId) (x : Operand) (v : Value) : Prop
  | mk {b off : Nat} (hu : One ty := by first | exact rowT2 | exact rowT3 | exact rowT4 | exact rowT22 | exact rowT26 | exact rowT29 | exact rowT30 | exact rowT33 | exact rowT34 | exact rowT51 | exact rowT130 | exact rowT170) (hx : a.eval x = .pointer (some ⟨b, off, none⟩) := by exact rfl) (hv : Find es m b off v := by (first | (apply Find.box; (· (repeat constructor)); rfl) | exact Find.mem (by assumption) | (apply Find.row; (· (repeat constructor)); assumption))) : LoadS es m a ty x v
inductive LoadsS (es : List Ent) (m : Mem) (a : Act) (ty : TypeId) (x : Operand) (vs : List Value) : Prop
  | mk {n b off : Nat} (hn : Rowy ty n := by first | exact rowT24 | exact rowT28 | exact rowT32 | exact rowT36 | exact rowT50 | exact rowT86 | exact rowT102 | exact rowT103) (hx : a.eval x = .pointer (some ⟨b, off, none⟩) := by exact rfl) (hv : Finds es m b off n vs := by (first | (apply Finds.box; (· (repeat constructor)); (· (repeat constructor)); done) | (refine Finds.mem2 (by assumption) ?_; first | rfl | assumption | (simp; done)) | (apply Finds.row; (· (repeat constructor)); (· assumption); (· rfl)))) : LoadsS es m a ty x vs
inductive StoreS (es : List Ent) (a : Act) (ty : TypeId) (x y : Operand) (es' : List Ent) : Prop
  | mk {b off : Nat} {v : Value} {cs cs' : List Value} (hn : One ty := by first | exact rowT2 | exact rowT3 | exact rowT4 | exact rowT22 | exact rowT26 | exact rowT29 | exact rowT30 | exact rowT33 | exact rowT34 | exact rowT51 | exact rowT130 | exact rowT170) (hx : a.eval x = .pointer (some ⟨b, off, none⟩) := by exact rfl) (hy : a.eval y = v := by (first | (go_simp; done) | (go_simp; with_reducible rfl))) (h1 : v.oneCell' = true := by (first | rfl | assumption | (simp [Value.oneCell']; done)))
    (hM : Ent.box b cs ∈ es := by (repeat constructor)) (hs : SetsL cs off [v] cs' := by (repeat constructor)) (hU : UpdB es b cs cs' es' := by (repeat constructor)) : StoreS es a ty x y es'
inductive StoreRS (es : List Ent) (a : Act) (ty : TypeId) (x y : Operand) (es' : List Ent) : Prop
  | mk {g off : Nat} {v : Value} {e : TypeId} {size n c : Nat} {xs : List Value} {f : Value → Nat → List Value → List Ent} (hn : One ty := by first | exact rowT2 | exact rowT3 | exact rowT4 | exact rowT22 | exact rowT26 | exact rowT29 | exact rowT30 | exact rowT33 | exact rowT34 | exact rowT51 | exact rowT130 | exact rowT170) (hx : a.eval x = .pointer (some ⟨g, off, none⟩) := by exact rfl) (hy : a.eval y = v := by (first | (go_simp; done) | (go_simp; with_reducible rfl))) (h1 : v.oneCell' = true := by (first | rfl | assumption | (simp [Value.oneCell']; done)))
    (hi : RowAt es e size (.slice (some ⟨g, 0, none⟩) n c) n xs f := by (repeat constructor)) (hl : off < xs.length := by first | assumption | omega | (simp; omega)) (he : f (.slice (some ⟨g, 0, none⟩) n c) n (xs.set off v) = es' := by exact rfl) : StoreRS es a ty x y es'
inductive StoresS (es : List Ent) (a : Act) (ty : TypeId) (x y : Operand) (es' : List Ent) : Prop
  | mk {n b off : Nat} {vs cs cs' : List Value} (hn : Rowy ty n := by first | exact rowT24 | exact rowT28 | exact rowT32 | exact rowT36 | exact rowT50 | exact rowT86 | exact rowT102 | exact rowT103) (hx : a.eval x = .pointer (some ⟨b, off, none⟩) := by exact rfl) (hy : a.eval y = .agg vs.toArray := by exact rfl) (hl : vs.length = n := by exact rfl) (h1 : ∀ v ∈ vs, v.oneCell' = true := by (first | assumption | (simp [Value.oneCell']; done)))
    (hM : Ent.box b cs ∈ es := by (repeat constructor)) (hs : SetsL cs off vs cs' := by (repeat constructor)) (hU : UpdB es b cs cs' es' := by (repeat constructor)) : StoresS es a ty x y es'
inductive Want (ops : Array Oper) (a : Act) (o : Oper) : Prop
  | mk (hw : Region.wanted o (yielded ops a.tmps) = true := by first | rfl | assumption | (go_simp; done)) : Want ops a o
theorem k_box {ty : TypeId} {y : Operand} (hS : St X w0 m0 w es m) {cs : List Value} (hs : BoxS a y cs) (h : ∀ w' b, St X w0 m0 w' (.box b cs :: es) m → wpList Tryz.prog ops Q rest (a.put dst (.pointer (some ⟨b, 0, none⟩))) w') :
    Wl Tryz.prog ops Q (⟨dst, .box ty y, rt, pos, af, none⟩ :: rest) a w := by
  obtain ⟨hy, hc⟩ := hs; exact wl_box hS hy hc h
theorem k_alloc {ty : TypeId} (hS : St X w0 m0 w es m) {cs : List Value} (hs : AllocS ty cs) (h : ∀ w' b, St X w0 m0 w' (.box b cs :: es) m → wpList Tryz.prog ops Q rest (a.put dst (.pointer (some ⟨b, 0, none⟩))) w') :
    Wl Tryz.prog ops Q (⟨dst, .alloc ty, rt, pos, af, none⟩ :: rest) a w := by
  obtain ⟨hz⟩ := hs; exact wl_alloc hS _ cs hz.1 hz.2 h
theorem k_load {ty : TypeId} {x : Operand} (hS : St X w0 m0 w es m) {v : Value} (hs : LoadS es m a ty x v) (h : wpList Tryz.prog ops Q rest (a.put dst v) w) : Wl Tryz.prog ops Q (⟨dst, .load ty x, rt, pos, af, none⟩ :: rest) a w := by
  obtain ⟨⟨d, hu, hd, _⟩, hx, hv⟩ := hs; exact wl_load hS hu hd hx hv h
theorem kg_load {ty : TypeId} {x : Operand} (hS : St X w0 m0 w es m) {v : Value} (hw : Want ops a ⟨dst, .load ty x, rt, pos, af, some g⟩) (hs : LoadS es m a ty x v) (h : wpList Tryz.prog ops Q rest (a.put dst v) w) : Wl Tryz.prog ops Q (⟨dst, .load ty x, rt, pos, af, some g⟩ :: rest) a w := by
  obtain ⟨⟨d, hu, hd, _⟩, hx, hv⟩ := hs; obtain ⟨hw⟩ := hw; exact wg_load hS hu hd hw hx hv h
theorem k_loads {ty : TypeId} {x : Operand} (hS : St X w0 m0 w es m) {vs : List Value} (hs : LoadsS es m a ty x vs) (h : wpList Tryz.prog ops Q rest (a.put dst (.agg vs.toArray)) w) : Wl Tryz.prog ops Q (⟨dst, .load ty x, rt, pos, af, none⟩ :: rest) a w := by
  obtain ⟨hn, hx, hv⟩ := hs; exact wl_loads hS hn hx hv h
theorem kg_loads {ty : TypeId} {x : Operand} (hS : St X w0 m0 w es m) {vs : List Value} (hw : Want ops a ⟨dst, .load ty x, rt, pos, af, some g⟩) (hs : LoadsS es m a ty x vs) (h : wpList Tryz.prog ops Q rest (a.put dst (.agg vs.toArray)) w) : Wl Tryz.prog ops Q (⟨dst, .load ty x, rt, pos, af, some g⟩ :: rest) a w := by
  obtain ⟨hn, hx, hv⟩ := hs; obtain ⟨hw⟩ := hw; exact wg_loads hS hn hw hx hv h
theorem k_no {op : Op} (hw : Region.wanted ⟨dst, op, rt, pos, af, some g⟩ (yielded ops a.tmps) = false) (h : wpList Tryz.prog ops Q rest (a.put dst undef) w) : Wl Tryz.prog ops Q (⟨dst, op, rt, pos, af, some g⟩ :: rest) a w := wl_unwanted hw h
theorem k_store {ty : TypeId} {x y : Operand} (hS : St X w0 m0 w es m) {es' : List Ent} (hs : StoreS es a ty x y es') (h : ∀ w', St X w0 m0 w' es' m → wpList Tryz.prog ops Q rest (a.put dst undef) w') :
    Wl Tryz.prog ops Q (⟨dst, .store ty x y, rt, pos, af, none⟩ :: rest) a w := by
  obtain ⟨hn, hx, hy, h1, hM, hs, hU⟩ := hs; exact wl_store hS hn hx hy h1 hM hs hU h
theorem k_storeR {ty : TypeId} {x y : Operand} (hS : St X w0 m0 w es m) {es' : List Ent} (hs : StoreRS es a ty x y es') (h : ∀ w', St X w0 m0 w' es' m → wpList Tryz.prog ops Q rest (a.put dst undef) w') :
    Wl Tryz.prog ops Q (⟨dst, .store ty x y, rt, pos, af, none⟩ :: rest) a w := by
  obtain ⟨hn, hx, hy, h1, hi, hl, he⟩ := hs; subst he; exact wl_storeR hS hn hx hy h1 hi hl h
theorem k_stores {ty : TypeId} {x y : Operand} (hS : St X w0 m0 w es m) {es' : List Ent} (hs : StoresS es a ty x y es') (h : ∀ w', St X w0 m0 w' es' m → wpList Tryz.prog ops Q rest (a.put dst undef) w') :
    Wl Tryz.prog ops Q (⟨dst, .store ty x y, rt, pos, af, none⟩ :: rest) a w := by
  obtain ⟨hn, hx, hy, hl, h1, hM, hs, hU⟩ := hs; exact wl_stores hS hn hx hy hl h1 hM hs hU h
end Go.Proofs.YtnbhhdncbajkgaaGreatDoor
/- Vectors: slices.Min, vec.Check. -/
namespace Go.Proofs.YtnbhhdncbajkgaaGreatDoor
set_option linter.unusedVariables false
set_option linter.unusedSimpArgs false
open Go.RowKit Go.Shelf
abbrev vecL : Lay (List Int) := (Lay.int .i16).list
theorem Row.intAt {k : IntKind} {m : Mem} {p : Option Addr} {xs : List Int} (h : Row (Lay.int k) m p xs) (i : Nat) (hi : i < xs.length) : ∃ b o, p = some ⟨b, o, none⟩ ∧ m ⟨b, o + i, none⟩ = some (.int k (xs.getD i 0)) ∧ InK k (xs.getD i 0) := by
  obtain ⟨b, o, cs, hp, hcs, hc⟩ := h.get i hi
  have e : xs.getD i 0 = xs[i] := by simp [List.getD, hi]
  obtain ⟨rfl, hk⟩ : cs = [.int k xs[i]] ∧ InK k xs[i] := hcs
  refine ⟨b, o, hp, ?_, by rw [e]; exact hk⟩
  rw [e]
  have := hc 0 _ rfl
  simpa [Lay.int] using this
theorem take_getD {xs : List Int} {k : Nat} (h : k < xs.length) : xs.take (k + 1) = xs.take k ++ [xs.getD k 0] := by
  rw [List.take_succ_eq_append_getElem h]
  simp [List.getD, h]
theorem inK16 {x : Int} (h : InK .i16 x) : -32768 ≤ x ∧ x ≤ 32767 := by
  simpa [InK, IntKind.min, IntKind.max, IntKind.signed, IntKind.bits] using h
/-- The least of numbers. -/
def Least (xs : List Int) (y : Int) : Prop := y ∈ xs ∧ ∀ x ∈ xs, y ≤ x
theorem Least.snoc {xs : List Int} {y x : Int} (h : Least xs y) : Least (xs ++ [x]) (min y x) := by
  refine ⟨?_, fun z hz => ?_⟩
  · by_cases hx : x < y
    · rw [Int.min_eq_right (by omega)]; simp
    · rw [Int.min_eq_left (by omega)]; simp [h.1]
  · rcases List.mem_append.1 hz with hz | hz
    · have := h.2 z hz; omega
    · simp at hz; omega
set_option maxRecDepth 100000 in
set_option maxHeartbeats 4000000 in
theorem min_c (m : Mem) (w : World) (hm : m.In w) (v : Value) (xs : List Int) (hr : vecL.rd m [v] xs) (h1 : 1 ≤ xs.length) :
    Calls Tryz.prog 77 #[v] w (Ret w m fun v _ => ∃ y : Int, v = .int .i16 y ∧ Hid (Least xs y)) := by
  have hS := St.start hm
  obtain ⟨q, c, rfl, _, hcm, _, hrow⟩ := Lay.list_open hr
  have hl : xs.length ≤ 9223372036854775807 := by simp only [maxLen] at hcm; omega
  have HR := Lib.hid hrow
  clear hr hrow hcm
  obtain ⟨bq, oq, rfl, h0, hk0⟩ := HR.out.intAt 0 h1
  have hc0 : m ⟨bq, oq, none⟩ = some (.int .i16 (xs.getD 0 0)) := h0
  have hL0 : Hid (Least (xs.take 1) (xs.getD 0 0)) := by
    show Least _ _
    rw [take_getD (k := 0) h1]
    exact ⟨by simp, by simp⟩
  have z1 : ¬ (xs.length : Int) < 1 := by omega
  have z2 : (0 : Int) < xs.length := by omega
  clear h0 hk0
  generalize xs.getD 0 0 = x0 at *
  go_enter Tryz.func77, Tryz.ntmps77
  go_wp2_with (first
    | ((with_reducible refine' Wl.out ?_; apply k_load hS); (· exact .mk)))
  go_loopw [3, 4] (fun vy vi wr => ∃ (k : Nat) (y : Int), 1 ≤ k ∧ k ≤ xs.length ∧ vy = .int .i16 y ∧ vi = .int .i64 k ∧ Hid (Least (xs.take k) y) ∧ St [] w m wr [] m) (fun _ vi _ => xs.length - (intOf vi).toNat)
  case atStart => exact ⟨1, x0, Nat.le_refl _, h1, rfl, rfl, hL0, hS⟩
  case round =>
    clear hS hL0 hc0
    obtain ⟨k, y, hk1, hk, rfl, rfl, hL, hS⟩ := hrel
    by_cases hlt : k < xs.length
    · obtain ⟨_, _, e, hc, _⟩ := HR.out.intAt k hlt
      cases e
      have hN := hL.out.snoc (x := xs.getD k 0)
      rw [← take_getD hlt] at hN
      have HN := Lib.hid hN
      have hkz : (k : Int) < xs.length := by omega
      clear hL hN
      generalize xs.getD k 0 = x at *
      go_wp2_with (first
    | ((with_reducible refine' Wl.out ?_; apply k_load hS); (· exact .mk)))
      go_roundw
      case rel => exact ⟨k + 1, _, by omega, hlt, rfl, by go_num, HN, hS⟩
      case measure => simp [intOf]; omega
    · obtain rfl : k = xs.length := by omega
      rw [List.take_length] at hL
      go_wp2_with (first
    | ((with_reducible refine' Wl.out ?_; apply k_load hS); (· exact .mk)))
      go_ret
      exact ⟨_, m, rfl, ⟨y, rfl, hL⟩, hS⟩
/-- Whether a vector may be. -/
def fineV (v : List Int) : Prop := 1 ≤ v.length ∧ v.length ≤ 64 ∧ ∀ x ∈ v, -32767 ≤ x
noncomputable instance (v : List Int) : Decidable (fineV v) := Classical.propDecidable _
noncomputable def chkV (v : List Int) : Int := if fineV v then 0 else 1
set_option maxRecDepth 100000 in
set_option maxHeartbeats 4000000 in
theorem vcheck_c (m : Mem) (w : World) (hm : m.In w) (v : Value) (xs : List Int) (hr : vecL.rd m [v] xs) :
    Calls Tryz.prog 45 #[v] w (Ret w m fun v _ => v = .int .i64 (chkV xs)) := by
  have hS := St.start hm
  obtain ⟨q, c, rfl, _, _, _, _⟩ := Lay.list_open hr
  have HL := Lib.hid hr
  clear hr
  have bad : ¬ fineV xs → (.int .i64 1 : Value) = .int .i64 (chkV xs) := fun h => by unfold chkV; rw [if_neg h]
  by_cases h0 : xs.length = 0
  · obtain rfl : xs = [] := List.eq_nil_of_length_eq_zero h0
    have hb := Lib.hid (bad (fun h => by have := h.1; simp at this))
    clear bad h0
    go_enter Tryz.func45, Tryz.ntmps45
    go_wp2_with fail
    go_ret
    exact ⟨_, m, rfl, hb.out, hS⟩
  by_cases h1 : 64 < xs.length
  · have hb := Lib.hid (bad (fun h => by have := h.2.1; omega))
    clear bad
    have h0' : ¬ (xs.length : Int) < 1 := by omega
    have h1' : (64 : Int) < xs.length := by omega
    clear h0 h1
    go_enter Tryz.func45, Tryz.ntmps45
    go_wp2_with fail
    go_ret
    exact ⟨_, m, rfl, hb.out, hS⟩
  have h0' : ¬ (xs.length : Int) < 1 := by omega
  have h1' : ¬ (64 : Int) < xs.length := by omega
  have hz1 : 1 ≤ xs.length := by omega
  have hv : Hid (∀ y, Least xs y → y < -32767 ∧ chkV xs = 1 ∨ ¬ y < -32767 ∧ chkV xs = 0) := fun y hy => by
    by_cases h : y < -32767
    · exact .inl ⟨h, if_neg fun hh => by have := hh.2.2 y hy.1; omega⟩
    · exact .inr ⟨h, if_pos ⟨hz1, by omega, fun x hx => by have := hy.2 x hx; omega⟩⟩
  clear bad h0 h1
  go_enter Tryz.func45, Tryz.ntmps45
  go_wp2_with (first
    | (go_at_call 77; refine (min_c m _ hS.inw _ xs HL.out hz1).mono ?_; rintro e' w13 ⟨_, m13, rfl, ⟨y, rfl, hy⟩, hk⟩; replace hS := hS.grow (grownBy_of_below hk.below); clear hk; rcases hv.out y hy.out with ⟨hlow, hE⟩ | ⟨hlow, hE⟩ <;> (replace hE := Lib.hid hE)))
  all_goals
    go_ret
    exact ⟨_, m, rfl, by rw [hE.out]; rfl, hS⟩
end Go.Proofs.YtnbhhdncbajkgaaGreatDoor
/- Results of calls as letters: what a walk carries on is a letter, what it stands for lies hidden. -/
namespace Go.Proofs.YtnbhhdncbajkgaaGreatDoor
set_option linter.unusedVariables false
set_option linter.unusedSimpArgs false
open Go.RowKit Go.Shelf
variable {P : Program} {f : FuncId} {args : Array Value} {w : World} {m : Mem}
theorem St.settleRow' {X : List Nat} {w0 w : World} {m0 m : Mem} {es : List Ent} {α : Type} {L : Lay α} (hS : St X w0 m0 w es m) (i : Nat) {e : TypeId} {v : Value} {cells : List Value} {xs : List α} {n : Nat} (hn : xs.length = n) (hi : es[i]? = some (.row e L.n v n cells)) (hc : CellsOf L m cells xs) (hb : xs.length * L.bytes ≤ 140737488355328) :
    ∃ m', St X w0 m0 w (es.eraseIdx i) m' ∧ m.Le m' ∧ L.list.rd m' [v] xs := by
  subst hn
  exact hS.settleRow i hi hc hb
theorem letB {b : Bool} (h : Calls P f args w (Ret w m fun v _ => v = .bool b)) : Calls P f args w (Ret w m fun v _ => ∃ b', Hid (b' = b) ∧ v = .bool b') :=
  h.mono fun e w' ⟨v, m', h1, h2, h3⟩ => ⟨v, m', h1, ⟨b, rfl, h2⟩, h3⟩
theorem letInt {k : IntKind} {x : Int} (h : Calls P f args w (Ret w m fun v _ => v = .int k x)) : Calls P f args w (Ret w m fun v _ => ∃ x', Hid (x' = x) ∧ v = .int k x') :=
  h.mono fun e w' ⟨v, m', h1, h2, h3⟩ => ⟨v, m', h1, ⟨x, rfl, h2⟩, h3⟩
theorem letL {b : List Int} (h : Calls P f args w (Ret w m fun v m' => bytesL.rd m' [v] b)) : Calls P f args w (Ret w m fun v m' => ∃ p c b', Hid (b' = b) ∧ v = .slice p b'.length c ∧ Hid (bytesL.rd m' [.slice p b'.length c] b') ∧ Hid (b'.length ≤ c ∧ c ≤ maxLen)) :=
  h.mono fun en w' ⟨v, m', h1, h3, h4⟩ => by
    have hh := h3
    obtain ⟨p, c, rfl, a1, a2, _⟩ := Lay.list_open h3
    exact ⟨_, m', h1, ⟨p, c, b, rfl, rfl, hh, a1, a2⟩, h4⟩
theorem letSame {x y : List Int} (h : Calls P f args w fun e w' => e = .returned (.bool (decide (x = y))) ∧ w = w') : Calls P f args w fun e w' => ∃ b', Hid (b' = decide (x = y)) ∧ e = .returned (.bool b') ∧ w = w' :=
  h.mono fun e w' ⟨h1, h2⟩ => ⟨_, rfl, h1, h2⟩
end Go.Proofs.YtnbhhdncbajkgaaGreatDoor
/- Vectors: vec.Dist. -/
namespace Go.Proofs.YtnbhhdncbajkgaaGreatDoor
set_option linter.unusedVariables false
set_option linter.unusedSimpArgs false
open Go.RowKit Go.Shelf
theorem wr64 {x : Int} (h1 : -9223372036854775808 ≤ x) (h2 : x ≤ 9223372036854775807) : IntKind.i64.wrap x = x := by
  simp [IntKind.wrap, IntKind.signed, IntKind.bits]
  omega
/-- How far two are apart: the first k numbers. -/
def distN (a b : List Int) : Nat → Int
  | 0 => 0
  | k + 1 => distN a b k + (a.getD k 0 - b.getD k 0) * (a.getD k 0 - b.getD k 0)
def In16 (a : List Int) : Prop := ∀ x ∈ a, -32768 ≤ x ∧ x ≤ 32767
theorem In16.at {a : List Int} (h : In16 a) (k : Nat) : -32768 ≤ a.getD k 0 ∧ a.getD k 0 ≤ 32767 := by
  by_cases hk : k < a.length
  · have := h (a.getD k 0) (by simp [List.getD, hk])
    exact this
  · have : a.getD k 0 = 0 := by simp [List.getD, Nat.le_of_not_lt hk]
    rw [this]; omega
theorem sq_le {x y : Int} (h1 : -32768 ≤ x ∧ x ≤ 32767) (h2 : -32768 ≤ y ∧ y ≤ 32767) : 0 ≤ (x - y) * (x - y) ∧ (x - y) * (x - y) ≤ 4294836225 := by
  have ha : -65535 ≤ x - y ∧ x - y ≤ 65535 := by omega
  generalize x - y = z at *
  refine ⟨?_, ?_⟩
  · rcases Int.le_total 0 z with h | h
    · exact Int.mul_nonneg h h
    · exact Int.mul_nonneg_of_nonpos_of_nonpos h h
  · have hz : (z.natAbs : Int) ≤ 65535 := by omega
    rw [← Int.natAbs_mul_self (a := z)]
    have : z.natAbs * z.natAbs ≤ 65535 * 65535 := Nat.mul_le_mul (by omega) (by omega)
    omega
theorem distN_le {a b : List Int} (ha : In16 a) (hb : In16 b) : ∀ k, 0 ≤ distN a b k ∧ distN a b k ≤ k * 4294836225
  | 0 => by simp [distN]
  | k + 1 => by
    have h1 := distN_le ha hb k
    have h2 := sq_le (ha.at k) (hb.at k)
    unfold distN
    generalize (a.getD k 0 - b.getD k 0) * (a.getD k 0 - b.getD k 0) = z at *
    generalize distN a b k = t at *
    omega
theorem ints_in {m : Mem} {v : Value} {xs : List Int} (h : vecL.rd m [v] xs) : In16 xs := by
  obtain ⟨q, c, rfl, _, _, _, hrow⟩ := Lay.list_open h
  intro x hx
  obtain ⟨i, hi, rfl⟩ := List.getElem_of_mem hx
  obtain ⟨b, o, cs, _, hcs, _⟩ := hrow.get i hi
  obtain ⟨_, hk⟩ : cs = [.int .i16 xs[i]] ∧ InK .i16 xs[i] := hcs
  exact inK16 hk
def distV (a b : List Int) : Int := distN a b a.length
noncomputable def dE (a b : List Int) : Int := if fineV a ∧ fineV b ∧ a.length = b.length then 0 else 1
noncomputable def dN (a b : List Int) : Int := if fineV a ∧ fineV b ∧ a.length = b.length then distV a b else 0
set_option maxRecDepth 100000 in
set_option maxHeartbeats 4000000 in
theorem dist1_c (m : Mem) (w : World) (hm : m.In w) (x y : Int) (hx : -32768 ≤ x ∧ x ≤ 32767) (hy : -32768 ≤ y ∧ y ≤ 32767) :
    Calls Tryz.prog 87 #[.int .i64 x, .int .i64 y] w (Ret w m fun v _ => v = .int .i64 ((x - y) * (x - y))) := by
  have hS := St.start hm
  have h1 := sq_le hx hy
  have z1 : IntKind.i64.wrap (x - y) = x - y := wr64 (by omega) (by omega)
  have z2 : IntKind.i64.wrap ((x - y) * (x - y)) = (x - y) * (x - y) := wr64 (by omega) (by omega)
  clear h1 hx hy
  go_enter Tryz.func87, Tryz.ntmps87
  go_wp2_with fail
  go_ret
  exact ⟨_, m, rfl, by simp, hS⟩
set_option maxRecDepth 100000 in
set_option maxHeartbeats 4000000 in
theorem sum_c (m : Mem) (w : World) (hm : m.In w) (v u : Value) (xs ys : List Int) (hr : vecL.rd m [v] xs) (hr2 : vecL.rd m [u] ys) :
    Calls Tryz.prog 86 #[v, u, .func (.func 87) #[] #[]] w (Ret w m fun v _ => v = .tuple #[.int .i64 (dN xs ys), .int .i64 (dE xs ys)]) := by
  have hS := St.start hm
  obtain ⟨q, c, rfl, _, _, _, hrow⟩ := Lay.list_open hr
  obtain ⟨q2, c2, rfl, _, _, _, hrow2⟩ := Lay.list_open hr2
  have A0 := Lib.hid hr
  have A1 := Lib.hid hr2
  have HR := Lib.hid hrow
  have HR2 := Lib.hid hrow2
  have H1 := Lib.hid (ints_in hr)
  have H2 := Lib.hid (ints_in hr2)
  clear hr hr2 hrow hrow2
  have bad : ¬ (fineV xs ∧ fineV ys ∧ xs.length = ys.length) → Hid (dN xs ys = 0 ∧ dE xs ys = 1) := fun h => ⟨if_neg h, if_neg h⟩
  by_cases hf1 : fineV xs
  · have c1 : Hid (chkV xs = 0) := if_pos hf1
    by_cases hf2 : fineV ys
    · have c2' : Hid (chkV ys = 0) := if_pos hf2
      by_cases hlen : xs.length = ys.length
      · have hD : Hid (dN xs ys = distN xs ys xs.length ∧ dE xs ys = 0) := ⟨if_pos ⟨hf1, hf2, hlen⟩, if_pos ⟨hf1, hf2, hlen⟩⟩
        have hl : xs.length ≤ 64 := hf1.2.1
        have HLen := Lib.hid hlen
        have hlen' : ((xs.length : Int) != ys.length) = false := by simp [hlen]
        clear bad hf1 hf2 hlen
        go_enter Tryz.func86, Tryz.ntmps86
        go_wp2_with (first
    | ((with_reducible refine' Wl.out ?_; apply k_load hS); (· exact .mk))
    | (go_at_call 45; (fail_if_success (clear Mk11)); refine (letInt (vcheck_c _ _ hS.inw _ _ (by first | exact A0.out | exact A1.out | exact dkL_dry A0.out | exact dkL_dry A1.out | exact Lay.nil_rd _ _))).mono ?_; rintro e' w11 ⟨_, m11, rfl, ⟨E11, HE11, rfl⟩, hk⟩; replace hS := hS.call hk; (try replace A0 := Lib.hid (Lay.mono _ hk.le A0.out)); (try replace A1 := Lib.hid (Lay.mono _ hk.le A1.out)); clear hk; obtain rfl : E11 = 0 := HE11.out.trans c1.out; have Mk11 := True.intro)
    | (go_at_call 45; (fail_if_success (clear Mk15)); refine (letInt (vcheck_c _ _ hS.inw _ _ (by first | exact A0.out | exact A1.out | exact dkL_dry A0.out | exact dkL_dry A1.out | exact Lay.nil_rd _ _))).mono ?_; rintro e' w15 ⟨_, m15, rfl, ⟨E15, HE15, rfl⟩, hk⟩; replace hS := hS.call hk; (try replace A0 := Lib.hid (Lay.mono _ hk.le A0.out)); (try replace A1 := Lib.hid (Lay.mono _ hk.le A1.out)); clear hk; obtain rfl : E15 = 0 := HE15.out.trans c2'.out; have Mk15 := True.intro))
        clear A0 A1
        go_loopw [6, 27] (fun vs vi wr => ∃ k : Nat, k ≤ xs.length ∧ vs = .int .i64 (distN xs ys k) ∧ vi = .int .i64 k ∧ St [] w m wr [] m15) (fun _ vi _ => xs.length - (intOf vi).toNat)
        case atStart => exact ⟨0, Nat.zero_le _, rfl, rfl, hS⟩
        case round =>
          clear hS
          obtain ⟨k, hk, rfl, rfl, hS⟩ := hrel
          by_cases hlt : k < xs.length
          · obtain ⟨bq, oq, rfl, hcx, _⟩ := HR.out.intAt k hlt
            obtain ⟨b2, o2, rfl, hcy, _⟩ := HR2.out.intAt k (by rw [← HLen.out]; exact hlt)
            have hcx' := hS.le _ _ hcx
            have hcy' := hS.le _ _ hcy
            have hX := H1.out.at k
            have hY := H2.out.at k
            have hkz : (k : Int) < xs.length := by omega
            have hkz2 : (k : Int) < ys.length := by have := HLen.out; omega
            have hB := distN_le H1.out H2.out k
            have hB2 := distN_le H1.out H2.out (k + 1)
            have hE : Hid (distN xs ys (k + 1) = distN xs ys k + (xs.getD k 0 - ys.getD k 0) * (xs.getD k 0 - ys.getD k 0)) := rfl
            rw [hE.out] at hB2
            have z1 : IntKind.i64.wrap (xs.getD k 0) = xs.getD k 0 := wr64 (by omega) (by omega)
            have z2 : IntKind.i64.wrap (ys.getD k 0) = ys.getD k 0 := wr64 (by omega) (by omega)
            have z3 : IntKind.i64.wrap (distN xs ys k + (xs.getD k 0 - ys.getD k 0) * (xs.getD k 0 - ys.getD k 0)) = distN xs ys k + (xs.getD k 0 - ys.getD k 0) * (xs.getD k 0 - ys.getD k 0) := wr64 (by omega) (by omega)
            have HX := Lib.hid hX
            have HY := Lib.hid hY
            clear hB hB2 hX hY hcx hcy
            generalize xs.getD k 0 = x at *
            generalize ys.getD k 0 = y at *
            go_wp2_with (first
    | ((with_reducible refine' Wl.out ?_; apply k_load hS); (· exact .mk))
              | (go_at_call 87; refine (dist1_c m15 _ hS.inw _ _ HX.out HY.out).mono ?_; rintro e' w41 ⟨_, m41, rfl, rfl, hk41⟩; replace hS := hS.grow (grownBy_of_below hk41.below); clear hk41))
            go_roundw
            case rel => exact ⟨k + 1, hlt, by rw [hE.out], by go_num, hS⟩
            case measure => simp [intOf]; omega
          · obtain rfl : k = xs.length := by omega
            go_wp2_with (first
    | ((with_reducible refine' Wl.out ?_; apply k_load hS); (· exact .mk)))
            go_ret2
            exact ⟨_, m15, rfl, by rw [hD.out.1, hD.out.2]; rfl, hS⟩
      · obtain hb := bad (fun h => hlen h.2.2)
        have hlen' : ((xs.length : Int) != ys.length) = true := by simp; omega
        clear bad hf1 hf2 hlen
        go_enter Tryz.func86, Tryz.ntmps86
        go_wp2_with (first
    | ((with_reducible refine' Wl.out ?_; apply k_load hS); (· exact .mk))
    | (go_at_call 45; (fail_if_success (clear Mk11)); refine (letInt (vcheck_c _ _ hS.inw _ _ (by first | exact A0.out | exact A1.out | exact dkL_dry A0.out | exact dkL_dry A1.out | exact Lay.nil_rd _ _))).mono ?_; rintro e' w11 ⟨_, m11, rfl, ⟨E11, HE11, rfl⟩, hk⟩; replace hS := hS.call hk; (try replace A0 := Lib.hid (Lay.mono _ hk.le A0.out)); (try replace A1 := Lib.hid (Lay.mono _ hk.le A1.out)); clear hk; obtain rfl : E11 = 0 := HE11.out.trans c1.out; have Mk11 := True.intro)
    | (go_at_call 45; (fail_if_success (clear Mk15)); refine (letInt (vcheck_c _ _ hS.inw _ _ (by first | exact A0.out | exact A1.out | exact dkL_dry A0.out | exact dkL_dry A1.out | exact Lay.nil_rd _ _))).mono ?_; rintro e' w15 ⟨_, m15, rfl, ⟨E15, HE15, rfl⟩, hk⟩; replace hS := hS.call hk; (try replace A0 := Lib.hid (Lay.mono _ hk.le A0.out)); (try replace A1 := Lib.hid (Lay.mono _ hk.le A1.out)); clear hk; obtain rfl : E15 = 0 := HE15.out.trans c2'.out; have Mk15 := True.intro))
        go_ret2
        exact ⟨_, m15, rfl, by rw [hb.out.1, hb.out.2]; rfl, hS⟩
    · obtain hb := bad (fun h => hf2 h.2.1)
      have c2' : Hid (chkV ys = 1) := if_neg hf2
      clear bad hf1 hf2
      go_enter Tryz.func86, Tryz.ntmps86
      go_wp2_with (first
    | ((with_reducible refine' Wl.out ?_; apply k_load hS); (· exact .mk))
    | (go_at_call 45; (fail_if_success (clear Mk11)); refine (letInt (vcheck_c _ _ hS.inw _ _ (by first | exact A0.out | exact A1.out | exact dkL_dry A0.out | exact dkL_dry A1.out | exact Lay.nil_rd _ _))).mono ?_; rintro e' w11 ⟨_, m11, rfl, ⟨E11, HE11, rfl⟩, hk⟩; replace hS := hS.call hk; (try replace A0 := Lib.hid (Lay.mono _ hk.le A0.out)); (try replace A1 := Lib.hid (Lay.mono _ hk.le A1.out)); clear hk; obtain rfl : E11 = 0 := HE11.out.trans c1.out; have Mk11 := True.intro)
    | (go_at_call 45; (fail_if_success (clear Mk15)); refine (letInt (vcheck_c _ _ hS.inw _ _ (by first | exact A0.out | exact A1.out | exact dkL_dry A0.out | exact dkL_dry A1.out | exact Lay.nil_rd _ _))).mono ?_; rintro e' w15 ⟨_, m15, rfl, ⟨E15, HE15, rfl⟩, hk⟩; replace hS := hS.call hk; (try replace A0 := Lib.hid (Lay.mono _ hk.le A0.out)); (try replace A1 := Lib.hid (Lay.mono _ hk.le A1.out)); clear hk; obtain rfl : E15 = 1 := HE15.out.trans c2'.out; have Mk15 := True.intro))
      go_ret2
      exact ⟨_, m15, rfl, by rw [hb.out.1, hb.out.2]; rfl, hS⟩
  · obtain hb := bad (fun h => hf1 h.1)
    have c1 : Hid (chkV xs = 1) := if_neg hf1
    clear bad hf1
    go_enter Tryz.func86, Tryz.ntmps86
    go_wp2_with (first
    | ((with_reducible refine' Wl.out ?_; apply k_load hS); (· exact .mk))
    | (go_at_call 45; (fail_if_success (clear Mk11)); refine (letInt (vcheck_c _ _ hS.inw _ _ (by first | exact A0.out | exact A1.out | exact dkL_dry A0.out | exact dkL_dry A1.out | exact Lay.nil_rd _ _))).mono ?_; rintro e' w11 ⟨_, m11, rfl, ⟨E11, HE11, rfl⟩, hk⟩; replace hS := hS.call hk; (try replace A0 := Lib.hid (Lay.mono _ hk.le A0.out)); (try replace A1 := Lib.hid (Lay.mono _ hk.le A1.out)); clear hk; obtain rfl : E11 = 1 := HE11.out.trans c1.out; have Mk11 := True.intro))
    go_ret2
    exact ⟨_, m11, rfl, by rw [hb.out.1, hb.out.2]; rfl, hS⟩
set_option maxRecDepth 100000 in
set_option maxHeartbeats 4000000 in
theorem vdist_c (m : Mem) (w : World) (hm : m.In w) (v u : Value) (xs ys : List Int) (hr : vecL.rd m [v] xs) (hr2 : vecL.rd m [u] ys) :
    Calls Tryz.prog 67 #[v, u] w (Ret w m fun v _ => v = .tuple #[.int .i64 (dN xs ys), .int .i64 (dE xs ys)]) := by
  have hS := St.start hm
  have A0 := Lib.hid hr
  have A1 := Lib.hid hr2
  obtain ⟨q, c, rfl, _⟩ := Lay.list_open hr
  obtain ⟨q2, c2, rfl, _⟩ := Lay.list_open hr2
  clear hr hr2
  go_enter Tryz.func67, Tryz.ntmps67
  go_wp2_with (first
    | (go_at_call 86; refine (sum_c m _ hS.inw _ _ xs ys A0.out A1.out).mono ?_; rintro e' w8 ⟨_, m8, rfl, rfl, hk⟩; replace hS := hS.call hk; clear hk))
  go_ret2
  exact ⟨_, _, rfl, rfl, hS⟩
def fitsV (d : Int) (v : List Int) : Prop := fineV v ∧ (v.length : Int) = d
noncomputable instance (d : Int) (v : List Int) : Decidable (fitsV d v) := Classical.propDecidable _
end Go.Proofs.YtnbhhdncbajkgaaGreatDoor
/- Hits, and heaps of them: plain laws. -/
namespace Go.Proofs.YtnbhhdncbajkgaaGreatDoor
set_option linter.unusedVariables false
set_option linter.unusedSimpArgs false
structure Hit where
  dist : Int
  id : Int
deriving DecidableEq
def Hit.lt (a b : Hit) : Prop := a.dist < b.dist ∨ (a.dist = b.dist ∧ a.id < b.id)
instance (a b : Hit) : Decidable (a.lt b) := inferInstanceAs (Decidable (_ ∨ _))
theorem Hit.ext' {a b : Hit} (h1 : a.dist = b.dist) (h2 : a.id = b.id) : a = b := by cases a; cases b; simp_all
theorem Hit.irrefl (a : Hit) : ¬ a.lt a := by unfold Hit.lt; omega
theorem Hit.trans {a b c : Hit} (h : a.lt b) (k : b.lt c) : a.lt c := by unfold Hit.lt at *; omega
theorem Hit.tri {a b : Hit} (h : ¬ a.lt b) (k : ¬ b.lt a) : a = b := by unfold Hit.lt at *; exact Hit.ext' (by omega) (by omega)
theorem Hit.asymm {a b : Hit} (h : a.lt b) : ¬ b.lt a := by unfold Hit.lt at *; omega
theorem Hit.le_trans {a b c : Hit} (h : ¬ b.lt a) (k : ¬ c.lt b) : ¬ c.lt a := by unfold Hit.lt at *; omega
def hz : Hit := ⟨0, 0⟩
/-- Two places change their hits. -/
def swapL (l : List Hit) (i j : Nat) : List Hit := (l.set i (l.getD j hz)).set j (l.getD i hz)
theorem swapL_len (l : List Hit) (i j : Nat) : (swapL l i j).length = l.length := by simp [swapL]
theorem getD_set {l : List Hit} {i k : Nat} {x : Hit} (hi : i < l.length) : (l.set i x).getD k hz = if k = i then x else l.getD k hz := by
  simp only [List.getD_eq_getElem?_getD, List.getElem?_set]
  by_cases h : i = k
  · subst h; rw [if_pos rfl, if_pos rfl]; simp [hi]
  · rw [if_neg h, if_neg (fun e => h e.symm)]
theorem swapL_get {l : List Hit} {i j k : Nat} (hi : i < l.length) (hj : j < l.length) : (swapL l i j).getD k hz = if k = j then l.getD i hz else if k = i then l.getD j hz else l.getD k hz := by
  unfold swapL
  rw [getD_set (by simpa using hj), getD_set hi]
theorem swapL_perm {l : List Hit} {i j : Nat} (hi : i < l.length) (hj : j < l.length) : (swapL l i j).Perm l := by
  have h := Array.swap_perm (xs := l.toArray) (i := i) (j := j) (by simpa using hi) (by simpa using hj)
  have e : (l.toArray.swap i j (by simpa using hi) (by simpa using hj)).toList = swapL l i j := by
    unfold swapL
    simp [Array.swap, List.getD, hi, hj]
  have := Array.perm_iff_toList_perm.1 h
  rw [e] at this
  simpa using this
/-- No hit lies under a nearer one, among the first n, but perhaps at place j. -/
def HeapBut (l : List Hit) (n j : Nat) : Prop := ∀ k, 0 < k → k < n → k ≠ j → ¬ (l.getD ((k - 1) / 2) hz).lt (l.getD k hz)
def Heap (l : List Hit) (n : Nat) : Prop := ∀ k, 0 < k → k < n → ¬ (l.getD ((k - 1) / 2) hz).lt (l.getD k hz)
def upL : Nat → List Hit → Nat → List Hit
  | 0, l, _ => l
  | f + 1, l, j => if 0 < j ∧ (l.getD ((j - 1) / 2) hz).lt (l.getD j hz) then upL f (swapL l ((j - 1) / 2) j) ((j - 1) / 2) else l
theorem upL_perm : ∀ (f : Nat) (l : List Hit) (j : Nat), j < l.length → (upL f l j).Perm l ∧ (upL f l j).length = l.length
  | 0, l, j, _ => ⟨List.Perm.refl _, rfl⟩
  | f + 1, l, j, h => by
    unfold upL
    split
    · have h2 : (j - 1) / 2 < l.length := by omega
      obtain ⟨k1, k2⟩ := upL_perm f (swapL l ((j - 1) / 2) j) ((j - 1) / 2) (by rw [swapL_len]; exact h2)
      exact ⟨k1.trans (swapL_perm h2 h), by rw [k2, swapL_len]⟩
    · exact ⟨List.Perm.refl _, rfl⟩
theorem upL_heap : ∀ (f : Nat) (l : List Hit) (j n : Nat), n ≤ l.length → j < n → j < f → HeapBut l n j → (∀ k, 0 < k → k < n → (k - 1) / 2 = j → 0 < j → ¬ (l.getD ((j - 1) / 2) hz).lt (l.getD k hz)) → Heap (upL f l j) n
  | 0, l, j, n, _, _, hf, _, _ => by omega
  | f + 1, l, j, n, hl, hj, hf, hb, hc => by
    unfold upL
    by_cases h : 0 < j ∧ (l.getD ((j - 1) / 2) hz).lt (l.getD j hz)
    · rw [if_pos h]
      obtain ⟨h0, hlt⟩ := h
      have hi : (j - 1) / 2 < l.length := by omega
      have hj' : j < l.length := by omega
      refine upL_heap f _ _ n (by rw [swapL_len]; exact hl) (by omega) (by omega) (fun k k0 kn kne => ?_) (fun k k0 kn kp i0 => ?_)
      · rw [swapL_get hi hj', swapL_get hi hj']
        by_cases e1 : k = j
        · subst e1
          rw [if_neg (by omega), if_pos rfl, if_pos rfl]
          exact Hit.asymm hlt
        · rw [if_neg e1, if_neg kne]
          by_cases e2 : (k - 1) / 2 = j
          · rw [if_pos e2]; exact hc k k0 kn e2 h0
          · rw [if_neg e2]
            by_cases e3 : (k - 1) / 2 = (j - 1) / 2
            · rw [if_pos e3]
              have := hb k k0 kn e1
              rw [e3] at this
              exact Hit.le_trans this (Hit.asymm hlt)
            · rw [if_neg e3]; exact hb k k0 kn e1
      · rw [swapL_get hi hj', swapL_get hi hj', if_neg (by omega), if_neg (by omega)]
        have hbi := hb ((j - 1) / 2) i0 (by omega) (by omega)
        by_cases e1 : k = j
        · subst e1; rw [if_pos rfl]; exact hbi
        · rw [if_neg e1, if_neg (by omega)]
          have hk := hb k k0 kn e1
          rw [kp] at hk
          exact Hit.le_trans hk hbi
    · rw [if_neg h]
      intro k k0 kn
      by_cases e : k = j
      · subst e; exact fun hh => h ⟨k0, hh⟩
      · exact hb k k0 kn e
/-- Down: from place i on, among the first n. -/
def downL : Nat → List Hit → Nat → Nat → List Hit
  | 0, l, _, _ => l
  | f + 1, l, i, n =>
    if 2 * i + 1 < n then
      let j := if 2 * i + 2 < n ∧ (l.getD (2 * i + 1) hz).lt (l.getD (2 * i + 2) hz) then 2 * i + 2 else 2 * i + 1
      if (l.getD i hz).lt (l.getD j hz) then downL f (swapL l i j) j n else l
    else l
theorem downL_perm : ∀ (f : Nat) (l : List Hit) (i n : Nat), n ≤ l.length → (downL f l i n).Perm l ∧ (downL f l i n).length = l.length ∧ ∀ k, n ≤ k → (downL f l i n).getD k hz = l.getD k hz
  | 0, l, i, n, _ => ⟨List.Perm.refl _, rfl, fun _ _ => rfl⟩
  | f + 1, l, i, n, h => by
    unfold downL
    split
    · rename_i h1
      obtain ⟨j, hj⟩ : ∃ j, j = if 2 * i + 2 < n ∧ (l.getD (2 * i + 1) hz).lt (l.getD (2 * i + 2) hz) then 2 * i + 2 else 2 * i + 1 := ⟨_, rfl⟩
      have hjn : j < n := by rw [hj]; split <;> omega
      simp only [← hj]
      split
      · have hi : i < l.length := by omega
        have hjl : j < l.length := by omega
        obtain ⟨k1, k2, k3⟩ := downL_perm f (swapL l i j) j n (by rw [swapL_len]; exact h)
        refine ⟨k1.trans (swapL_perm hi hjl), by rw [k2, swapL_len], fun k hk => ?_⟩
        rw [k3 k hk, swapL_get hi hjl, if_neg (by omega), if_neg (by omega)]
      · exact ⟨List.Perm.refl _, rfl, fun _ _ => rfl⟩
    · exact ⟨List.Perm.refl _, rfl, fun _ _ => rfl⟩
/-- A heap, but for what lies under place i. -/
def HeapUnder (l : List Hit) (n i : Nat) : Prop := ∀ k, 0 < k → k < n → (k - 1) / 2 ≠ i → ¬ (l.getD ((k - 1) / 2) hz).lt (l.getD k hz)
theorem downL_heap : ∀ (f : Nat) (l : List Hit) (i n : Nat), n ≤ l.length → n ≤ i + f → HeapUnder l n i → (∀ k, 0 < k → k < n → (k - 1) / 2 = i → 0 < i → ¬ (l.getD ((i - 1) / 2) hz).lt (l.getD k hz)) → Heap (downL f l i n) n
  | 0, l, i, n, _, hf, hb, _ => by
    intro k k0 kn
    exact hb k k0 kn (by omega)
  | f + 1, l, i, n, hl, hf, hb, hc => by
    unfold downL
    by_cases h1 : 2 * i + 1 < n
    · rw [if_pos h1]
      obtain ⟨j, hj⟩ : ∃ j, j = if 2 * i + 2 < n ∧ (l.getD (2 * i + 1) hz).lt (l.getD (2 * i + 2) hz) then 2 * i + 2 else 2 * i + 1 := ⟨_, rfl⟩
      have hjn : j < n ∧ (j = 2 * i + 1 ∨ j = 2 * i + 2) := by rw [hj]; split <;> omega
      have hbest : ∀ k, k < n → (k = 2 * i + 1 ∨ k = 2 * i + 2) → ¬ (l.getD j hz).lt (l.getD k hz) := by
        intro k kn hk
        rw [hj]
        split
        · rename_i hh
          rcases hk with rfl | rfl
          · exact Hit.asymm hh.2
          · exact Hit.irrefl _
        · rename_i hh
          rcases hk with rfl | rfl
          · exact Hit.irrefl _
          · exact fun hlt => hh ⟨kn, hlt⟩
      simp only [← hj]
      by_cases h2 : (l.getD i hz).lt (l.getD j hz)
      · rw [if_pos h2]
        have hi : i < l.length := by omega
        have hjl : j < l.length := by omega
        refine downL_heap f _ _ n (by rw [swapL_len]; exact hl) (by omega) (fun k k0 kn kne => ?_) (fun k k0 kn kp i0 => ?_)
        · rw [swapL_get hi hjl, swapL_get hi hjl, if_neg kne]
          by_cases e1 : (k - 1) / 2 = i
          · rw [if_pos e1]
            by_cases e2 : k = j
            · rw [if_pos e2]; exact Hit.asymm h2
            · rw [if_neg e2, if_neg (by omega)]
              exact hbest k kn (by omega)
          · rw [if_neg e1]
            by_cases e2 : k = j
            · omega
            · rw [if_neg e2]
              by_cases e3 : k = i
              · rw [if_pos e3]
                subst e3
                exact hc j (by omega) hjn.1 (by omega) k0
              · rw [if_neg e3]; exact hb k k0 kn e1
        · rw [swapL_get hi hjl, swapL_get hi hjl, if_neg (by omega), if_pos (by omega), if_neg (by omega), if_neg (by omega)]
          have := hb k k0 kn (by omega)
          rw [kp] at this
          exact this
      · rw [if_neg h2]
        intro k k0 kn
        by_cases e1 : (k - 1) / 2 = i
        · rw [e1]
          exact Hit.le_trans (hbest k kn (by omega)) h2
        · exact hb k k0 kn e1
    · rw [if_neg h1]
      intro k k0 kn
      exact hb k k0 kn (by omega)
/-- The farthest one is on top. -/
theorem Heap.top {l : List Hit} {n : Nat} (h : Heap l n) : ∀ k, k < n → ¬ (l.getD 0 hz).lt (l.getD k hz) := by
  intro k
  induction k using Nat.strongRecOn with
  | _ k ih =>
    intro kn
    by_cases k0 : k = 0
    · subst k0; exact Hit.irrefl _
    · exact Hit.le_trans (h k (by omega) kn) (ih ((k - 1) / 2) (by omega) (by omega))
/-- A hit more. -/
def pushL (l : List Hit) (h : Hit) : List Hit := upL (l.length + 1) (l ++ [h]) l.length
/-- The farthest one taken out. -/
def popL (l : List Hit) : List Hit := (downL l.length (swapL l 0 (l.length - 1)) 0 (l.length - 1)).take (l.length - 1)
theorem push_ok {l : List Hit} {h : Hit} (hh : Heap l l.length) : (pushL l h).Perm (l ++ [h]) ∧ (pushL l h).length = l.length + 1 ∧ Heap (pushL l h) (l.length + 1) := by
  obtain ⟨k1, k2⟩ := upL_perm (l.length + 1) (l ++ [h]) l.length (by simp)
  refine ⟨k1, by unfold pushL; rw [k2]; simp, upL_heap _ _ _ _ (by simp) (by omega) (by omega) (fun k k0 kn kne => ?_) (fun k k0 kn kp j0 => by omega)⟩
  have e : ∀ m, m < l.length → (l ++ [h]).getD m hz = l.getD m hz := fun m hm => by simp [List.getD, List.getElem?_append_left hm]
  rw [e _ (by omega), e _ (by omega)]
  exact hh k k0 (by omega)
theorem pop_ok {l : List Hit} (h0 : 0 < l.length) (hh : Heap l l.length) : (popL l ++ [l.getD 0 hz]).Perm l ∧ (popL l).length = l.length - 1 ∧ Heap (popL l) (l.length - 1) := by
  have hi : (0 : Nat) < l.length := h0
  have hj : l.length - 1 < l.length := by omega
  obtain ⟨k1, k2, k3⟩ := downL_perm l.length (swapL l 0 (l.length - 1)) 0 (l.length - 1) (by rw [swapL_len]; omega)
  rw [swapL_len] at k2
  have hheap := downL_heap l.length (swapL l 0 (l.length - 1)) 0 (l.length - 1) (by rw [swapL_len]; omega) (by omega) (fun k k0' kn kne => by
    rw [swapL_get hi hj, swapL_get hi hj, if_neg (by omega), if_neg kne, if_neg (by omega), if_neg (by omega)]
    exact hh k k0' (by omega)) (fun k _ _ _ i0 => by omega)
  have hlast := k3 (l.length - 1) (Nat.le_refl _)
  rw [swapL_get hi hj, if_pos rfl] at hlast
  have hp := k1.trans (swapL_perm hi hj)
  unfold popL
  generalize downL l.length (swapL l 0 (l.length - 1)) 0 (l.length - 1) = D at *
  have hd : D.drop (l.length - 1) = [D.getD (l.length - 1) hz] := by
    rw [List.drop_eq_getElem_cons (by omega), List.drop_eq_nil_of_le (by omega)]
    rw [List.getD_eq_getElem?_getD, List.getElem?_eq_getElem (by omega)]; rfl
  have hsplit : D = D.take (l.length - 1) ++ [l.getD 0 hz] := by rw [← hlast, ← hd, List.take_append_drop]
  refine ⟨by rw [← hsplit]; exact hp, by simp; omega, fun k k0' kn => ?_⟩
  have e : ∀ m, m < l.length - 1 → (D.take (l.length - 1)).getD m hz = D.getD m hz := fun m hm => by simp [List.getD, List.getElem?_take_of_lt hm]
  rw [e _ (by omega), e _ kn]
  exact hheap k k0' kn
end Go.Proofs.YtnbhhdncbajkgaaGreatDoor
/- The nearest hits: plain laws. -/
namespace Go.Proofs.YtnbhhdncbajkgaaGreatDoor
set_option linter.unusedVariables false
set_option linter.unusedSimpArgs false
/-- A hit laid among sorted ones. -/
def insH (h : Hit) : List Hit → List Hit
  | [] => [h]
  | x :: l => if x.lt h then x :: insH h l else h :: x :: l
/-- Hits in order. -/
def srt : List Hit → List Hit
  | [] => []
  | h :: l => insH h (srt l)
def Asc (l : List Hit) : Prop := l.Pairwise fun a b => ¬ b.lt a
theorem insH_perm (h : Hit) : ∀ l, (insH h l).Perm (h :: l)
  | [] => .refl _
  | x :: l => by
    unfold insH
    split
    · exact (List.Perm.cons x (insH_perm h l)).trans (List.Perm.swap h x l)
    · exact .refl _
theorem srt_perm : ∀ l, (srt l).Perm l
  | [] => .refl _
  | h :: l => (insH_perm h (srt l)).trans (List.Perm.cons h (srt_perm l))
theorem insH_asc {h : Hit} : ∀ {l : List Hit}, Asc l → Asc (insH h l)
  | [], _ => by simp [insH, Asc]
  | x :: l, hl => by
    obtain ⟨h1, h2⟩ := List.pairwise_cons.1 hl
    unfold insH
    split
    · rename_i hx
      refine List.pairwise_cons.2 ⟨fun y hy => ?_, insH_asc h2⟩
      rcases List.mem_cons.1 ((insH_perm h l).mem_iff.1 hy) with rfl | hy
      · exact Hit.asymm hx
      · exact h1 y hy
    · rename_i hx
      refine List.pairwise_cons.2 ⟨fun y hy => ?_, hl⟩
      rcases List.mem_cons.1 hy with rfl | hy
      · exact hx
      · exact Hit.le_trans hx (h1 y hy)
theorem srt_asc : ∀ l, Asc (srt l)
  | [] => .nil
  | h :: l => insH_asc (srt_asc l)
/-- Sorted, and the same hits: the same. -/
theorem asc_unique : ∀ {l r : List Hit}, Asc l → Asc r → l.Perm r → l = r
  | [], r, _, _, hp => by rw [List.Perm.nil_eq hp]
  | x :: l, [], _, _, hp => by have := hp.length_eq; simp at this
  | x :: l, y :: r, hl, hr, hp => by
    obtain ⟨h1, h2⟩ := List.pairwise_cons.1 hl
    obtain ⟨k1, k2⟩ := List.pairwise_cons.1 hr
    have hxy : x = y := by
      have hx : x ∈ y :: r := hp.mem_iff.1 (by simp)
      have hy : y ∈ x :: l := hp.mem_iff.2 (by simp)
      rcases List.mem_cons.1 hx with e | hx
      · exact e
      · rcases List.mem_cons.1 hy with e | hy
        · exact e.symm
        · exact Hit.tri (k1 x hx) (h1 y hy) |>.symm ▸ rfl
    subst hxy
    rw [asc_unique h2 k2 (List.Perm.cons_inv hp)]
theorem srt_eq {l r : List Hit} (h : Asc r) (hp : r.Perm l) : r = srt l := asc_unique h (srt_asc l) (hp.trans (srt_perm l).symm)
theorem srt_congr {l r : List Hit} (hp : l.Perm r) : srt l = srt r := srt_eq (srt_asc l) ((srt_perm l).trans hp)
theorem srt_length (l : List Hit) : (srt l).length = l.length := (srt_perm l).length_eq
theorem srt_snoc (l : List Hit) (h : Hit) : srt (l ++ [h]) = insH h (srt l) := by
  have : (l ++ [h]).Perm (h :: l) := List.perm_append_comm
  rw [srt_congr this]
  rfl
theorem take_insH (h : Hit) : ∀ (l : List Hit) (k : Nat), (insH h (l.take k)).take k = (insH h l).take k
  | _, 0 => by simp
  | [], k + 1 => by simp
  | x :: l, k + 1 => by
    rw [List.take_succ_cons]
    unfold insH
    split
    · rw [List.take_succ_cons, List.take_succ_cons, take_insH h l k]
    · rw [List.take_succ_cons, List.take_succ_cons]
      congr 1
      cases k with
      | zero => simp
      | succ k => rw [List.take_succ_cons, List.take_succ_cons, List.take_take]; congr 2; omega
/-- The k nearest ones. -/
def near (k : Nat) (l : List Hit) : List Hit := (srt l).take k
theorem near_congr {k : Nat} {l r : List Hit} (hp : l.Perm r) : near k l = near k r := by unfold near; rw [srt_congr hp]
theorem near_snoc (k : Nat) (l : List Hit) (h : Hit) : near k (l ++ [h]) = (insH h (near k l)).take k := by
  unfold near; rw [srt_snoc, take_insH]
theorem near_asc (k : Nat) (l : List Hit) : Asc (near k l) := (srt_asc l).sublist (List.take_sublist _ _)
theorem srt_near (k : Nat) (l : List Hit) : srt (near k l) = near k l := (srt_eq (near_asc k l) (.refl _)).symm
theorem near_near_snoc (k : Nat) (l : List Hit) (h : Hit) : near k (near k l ++ [h]) = near k (l ++ [h]) := by
  rw [near_snoc, near_snoc]
  congr 2
  unfold near
  rw [show srt ((srt l).take k) = (srt l).take k from srt_near k l, List.take_take, Nat.min_self]
/-- Whatever is added behind: the nearest ones of what was there are enough. -/
theorem near_near (k : Nat) (l : List Hit) : near k (near k l) = near k l := by
  show (srt (near k l)).take k = _
  rw [srt_near]
  unfold near
  rw [List.take_take, Nat.min_self]
theorem near_append (k : Nat) : ∀ (r l : List Hit), near k (near k l ++ r) = near k (l ++ r)
  | [], l => by rw [List.append_nil, List.append_nil, near_near]
  | h :: r, l => by
    have e : ∀ x : List Hit, x ++ h :: r = (x ++ [h]) ++ r := fun x => by simp
    rw [e, e, ← near_append k r (near k l ++ [h]), near_near_snoc, near_append k r (l ++ [h])]
theorem near_both (k : Nat) (l r : List Hit) : near k (near k l ++ near k r) = near k (l ++ r) := by
  rw [near_append, near_congr (List.perm_append_comm (l₁ := l) (l₂ := near k r)), near_append, near_congr List.perm_append_comm]
/-- A hit more, of k at most. -/
def addL (l : List Hit) (k : Nat) (h : Hit) : List Hit := if k < (pushL l h).length then popL (pushL l h) else pushL l h
theorem add_ok {l : List Hit} {k : Nat} {h : Hit} (hh : Heap l l.length) (hl : l.length ≤ k) (hk : 1 ≤ k) : srt (addL l k h) = (srt (l ++ [h])).take k ∧ (addL l k h).length = min (l.length + 1) k ∧ Heap (addL l k h) (addL l k h).length := by
  obtain ⟨p1, p2, p3⟩ := push_ok (h := h) hh
  unfold addL
  by_cases hlt : k < (pushL l h).length
  · rw [if_pos hlt]
    obtain ⟨q1, q2, q3⟩ := pop_ok (l := pushL l h) (by omega) (by rw [p2]; exact p3)
    have hk2 : l.length = k := by omega
    refine ⟨?_, by omega, by rw [q2]; exact q3⟩
    have htop := Heap.top (by rw [p2]; exact p3 : Heap (pushL l h) (pushL l h).length)
    have hs : srt (pushL l h) = srt (popL (pushL l h)) ++ [(pushL l h).getD 0 hz] := by
      refine (srt_eq ?_ ?_).symm
      · refine List.pairwise_append.2 ⟨srt_asc _, by simp, fun a ha b hb => ?_⟩
        obtain rfl : b = (pushL l h).getD 0 hz := by simpa using hb
        have ha' : a ∈ pushL l h := q1.mem_iff.1 (List.mem_append.2 (.inl ((srt_perm _).mem_iff.1 ha)))
        obtain ⟨m, hm, rfl⟩ := List.getElem_of_mem ha'
        have := htop m hm
        rwa [show (pushL l h).getD m hz = (pushL l h)[m] by simp [List.getD, hm]] at this
      · exact (List.Perm.append_right _ (srt_perm _)).trans q1
    rw [← srt_congr p1, hs, List.take_append_of_le_length (by rw [srt_length, q2]; omega), List.take_of_length_le (by rw [srt_length, q2]; omega)]
  · rw [if_neg hlt]
    refine ⟨?_, by omega, by rw [p2]; exact p3⟩
    rw [srt_congr p1, List.take_of_length_le (by rw [srt_length]; simp; omega)]
end Go.Proofs.YtnbhhdncbajkgaaGreatDoor
/- Heaps that may be, and what is added: plain laws for the laws of layer 16. -/
namespace Go.Proofs.YtnbhhdncbajkgaaGreatDoor
set_option linter.unusedVariables false
set_option linter.unusedSimpArgs false
def fineH (h : Hit) : Prop := 0 ≤ h.dist ∧ 0 ≤ h.id ∧ h.id ≤ 2147483647
instance (h : Hit) : Decidable (fineH h) := inferInstanceAs (Decidable (_ ∧ _))
def okH (l : List Hit) (k : Int) : Prop := 1 ≤ k ∧ k ≤ 256 ∧ (l.length : Int) ≤ k ∧ (∀ h ∈ l, fineH h) ∧ (l.map Hit.id).Nodup ∧ Heap l l.length
def addE (l : List Hit) (k : Int) (h : Hit) : Prop := okH l k ∧ fineH h
theorem pushed {l : List Hit} {k : Nat} {h : Hit} (hh : Heap l l.length) : ∀ x ∈ addL l k h, x ∈ l ∨ x = h := by
  obtain ⟨p1, p2, p3⟩ := push_ok (h := h) hh
  intro x hx
  have hx' : x ∈ pushL l h := by
    unfold addL at hx
    split at hx
    · obtain ⟨q1, _, _⟩ := pop_ok (l := pushL l h) (by omega) (by rw [p2]; exact p3)
      exact q1.mem_iff.1 (List.mem_append.2 (.inl hx))
    · exact hx
  rcases List.mem_append.1 (p1.mem_iff.1 hx') with h1 | h1
  · exact .inl h1
  · exact .inr (by simpa using h1)
theorem add_nodup {l : List Hit} {k : Nat} {h : Hit} (hh : Heap l l.length) (hd : (l.map Hit.id).Nodup) (hn : ∀ x ∈ l, x.id ≠ h.id) : ((addL l k h).map Hit.id).Nodup := by
  obtain ⟨p1, p2, p3⟩ := push_ok (h := h) hh
  have h1 : ((l ++ [h]).map Hit.id).Nodup := by
    rw [List.map_append, List.nodup_append]
    refine ⟨hd, by simp, fun a ha b hb e => ?_⟩
    obtain ⟨x, hx, rfl⟩ := List.mem_map.1 ha
    simp at hb
    subst hb
    exact hn x hx e
  have h2 : ((pushL l h).map Hit.id).Nodup := (p1.map Hit.id).nodup_iff.2 h1
  unfold addL
  split
  · obtain ⟨q1, _, _⟩ := pop_ok (l := pushL l h) (by omega) (by rw [p2]; exact p3)
    have h3 := (q1.map Hit.id).nodup_iff.2 h2
    rw [List.map_append, List.nodup_append] at h3
    exact h3.1
  · exact h2
theorem add_okH {l : List Hit} {k : Int} {h : Hit} (ho : okH l k) (hf : fineH h) (hn : ∀ x ∈ l, x.id ≠ h.id) : okH (addL l k.toNat h) k ∧ srt (addL l k.toNat h) = near k.toNat (l ++ [h]) ∧ (addL l k.toNat h).length = min (l.length + 1) k.toNat := by
  obtain ⟨h1, h2, h3, h4, h5, h6⟩ := ho
  obtain ⟨a1, a2, a3⟩ := add_ok (h := h) h6 (show l.length ≤ k.toNat by omega) (by omega)
  refine ⟨⟨h1, h2, by omega, fun x hx => ?_, add_nodup h6 h5 hn, a3⟩, a1, a2⟩
  rcases pushed h6 x hx with hx | rfl
  · exact h4 x hx
  · exact hf
/-- Whoever is not among the nearest ones: these are k, and none of them is farther. -/
theorem near_rest {k : Nat} {l : List Hit} {h : Hit} (hm : h ∈ l) (hn : h ∉ near k l) : (near k l).length = k ∧ ∀ x ∈ near k l, ¬ h.lt x := by
  have hs := srt_asc l
  have hm2 : h ∈ srt l := (srt_perm l).mem_iff.2 hm
  have e : srt l = near k l ++ (srt l).drop k := (List.take_append_drop k (srt l)).symm
  have hd : h ∈ (srt l).drop k := by
    rw [e] at hm2
    rcases List.mem_append.1 hm2 with h1 | h1
    · exact absurd h1 hn
    · exact h1
  have hlen : k < (srt l).length := by
    apply Decidable.byContradiction
    intro hh
    rw [List.drop_eq_nil_of_le (by omega)] at hd
    simp at hd
  refine ⟨by unfold near; rw [List.length_take]; omega, fun x hx => ?_⟩
  unfold Asc at hs
  rw [e] at hs
  exact (List.pairwise_append.1 hs).2.2 x hx h hd
theorem near_sub {k : Nat} {l : List Hit} : ∀ x ∈ near k l, x ∈ l := fun x hx => (srt_perm l).mem_iff.1 (List.mem_of_mem_take hx)
/-- Of different ids, in order: each is nearer than the next one. -/
theorem asc_strict {l : List Hit} (h : Asc l) (hd : (l.map Hit.id).Nodup) : l.Pairwise Hit.lt := by
  induction l with
  | nil => exact .nil
  | cons x l ih =>
    obtain ⟨h1, h2⟩ := List.pairwise_cons.1 h
    rw [List.map_cons, List.nodup_cons] at hd
    refine List.pairwise_cons.2 ⟨fun y hy => ?_, ih h2 hd.2⟩
    apply Decidable.byContradiction
    intro hn
    have e := Hit.tri hn (h1 y hy)
    exact hd.1 (List.mem_map.2 ⟨y, hy, by rw [e]⟩)
/-- A heap that was grown of hits: its hits in order are the nearest ones of all. -/
theorem grown_near {k : Nat} {l S : List Hit} {h : Hit} {a : List Hit} (hs : srt l = near k S) (ha : srt a = near k (l ++ [h])) : srt a = near k (S ++ [h]) := by
  rw [ha, near_snoc, near_snoc]
  congr 2
  have : near k l = near k S := by
    show (srt l).take k = _
    rw [hs]
    unfold near
    rw [List.take_take, Nat.min_self]
  exact this
theorem worst_top {l : List Hit} (h0 : 0 < l.length) (hh : Heap l l.length) : ∀ x ∈ l, ¬ (l.getD 0 hz).lt x := fun x hx => by
  obtain ⟨m, hm, rfl⟩ := List.getElem_of_mem hx
  have := hh.top m hm
  rwa [show l.getD m hz = l[m] by simp [List.getD, hm]] at this
/-- One that is farther than the farthest one, where there are k, changes nothing. -/
theorem add_far {l : List Hit} {k : Nat} {h : Hit} (hk : l.length = k) (h0 : 0 < k) (hh : Heap l l.length) (hf : (l.getD 0 hz).lt h) : near k (l ++ [h]) = srt l := by
  have hs : srt (l ++ [h]) = srt l ++ [h] := by
    refine (srt_eq ?_ (List.Perm.append_right _ (srt_perm l))).symm
    refine List.pairwise_append.2 ⟨srt_asc l, by simp, fun a ha b hb => ?_⟩
    obtain rfl : b = h := by simpa using hb
    have ha' := (srt_perm l).mem_iff.1 ha
    have h1 := worst_top (by omega) hh a ha'
    exact Hit.le_trans h1 (Hit.asymm hf)
  unfold near
  rw [hs, List.take_append_of_le_length (by rw [srt_length]; omega), List.take_of_length_le (by rw [srt_length]; omega)]
end Go.Proofs.YtnbhhdncbajkgaaGreatDoor
