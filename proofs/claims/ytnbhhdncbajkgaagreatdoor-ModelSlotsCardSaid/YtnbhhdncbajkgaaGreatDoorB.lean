/- The words of these proofs: how slices of numbers are read, how rows of the call's own are told. -/
import Derived.WalkKit
import Derived.WalkSpells
import Derived.WalkSmall
import Derived.Lib.Hide
import Derived.Lib.Bytes
import Derived.Lib.SlFresh
import Derived.Lib.SlParts
import Derived.Laws.CopyOwn
import Derived.Shelf.Bytes.SlSmallAll
namespace Go.Proofs.YtnbhhdncbajkgaaGreatDoor
set_option linter.unusedVariables false
set_option linter.unusedSimpArgs false
open Go.RowKit

/-- The numbers xs lie at p (no number: whatever p). -/
def Rd (k : IntKind) (w : World) (p : Option Addr) (xs : List Int) : Prop :=
  0 < xs.length → ∃ b o, p = some ⟨b, o, none⟩ ∧ ∀ i, i < xs.length → w.cell? ⟨b, o + i, none⟩ = some (.int k (xs.getD i 0))
/-- Octets. -/
def IsB (xs : List Int) : Prop := ∀ x ∈ xs, 0 ≤ x ∧ x < 256
/-- A row of the call's own. -/
def Own (k : IntKind) (e : TypeId) (w : World) (base : Nat) (v : Value) (xs : List Int) : Prop :=
  w.ownsRow base e 1 v xs.length (xs.map (.int k))

theorem cell_below {w w' : World} (hb : Below w.heap.size w w') {a : Addr} {v : Value} (h : w.cell? a = some v) : w'.cell? a = some v :=
  (hb.cell (World.block_lt_of_cell? w a h)).trans h
theorem Rd.below {k : IntKind} {w w' : World} {p : Option Addr} {xs : List Int} (h : Rd k w p xs) (hb : Below w.heap.size w w') : Rd k w' p xs := fun hx => by
  obtain ⟨b, o, e, hc⟩ := h hx
  exact ⟨b, o, e, fun i hi => cell_below hb (hc i hi)⟩
theorem Rd.drew {k : IntKind} {w : World} {p : Option Addr} {xs : List Int} (h : Rd k w p xs) (n : Nat) : Rd k (w.drewN n) p xs := fun hx => by
  obtain ⟨b, o, e, hc⟩ := h hx
  exact ⟨b, o, e, fun i hi => by simpa using hc i hi⟩
theorem Rd.nil (k : IntKind) (w : World) (p : Option Addr) : Rd k w p [] := fun h => absurd h (Nat.lt_irrefl 0)
theorem Rd.bytesIn {w : World} {p : Option Addr} {xs : List Int} (h : Rd .u8 w p xs) : Lib.BytesIn w p xs.length xs := h
theorem Own.rd {k : IntKind} {e : TypeId} {w : World} {base : Nat} {v : Value} {xs : List Int} (h : Own k e w base v xs) :
    ∃ p c, v = .slice p xs.length c ∧ xs.length ≤ c ∧ c ≤ maxLen ∧ Rd k w p xs := by
  rcases h.2 with ⟨rfl, h0⟩ | ⟨g, cap, cur, rfl, _, hh, h1, h2, h3, h4⟩
  · have : xs = [] := List.eq_nil_of_length_eq_zero h0
    subst this
    exact ⟨none, 0, rfl, Nat.le_refl _, by simp [maxLen], Rd.nil _ _ _⟩
  · refine ⟨_, cap, rfl, h1, h2, fun _ => ⟨g, 0, rfl, fun i hi => ?_⟩⟩
    have := World.ownsRow.cellAt (g := g) (cap := cap) ⟨h.1, .inr ⟨g, cap, cur, rfl, ‹_›, hh, h1, h2, h3, h4⟩⟩ i (by omega)
    rw [Nat.zero_add, this]
    simp [List.getD, List.getElem?_eq_getElem hi]
theorem Own.below {k : IntKind} {e : TypeId} {w w' : World} {base : Nat} {v : Value} {xs : List Int} (h : Own k e w base v xs) (hb : Below w.heap.size w w') : Own k e w' base v xs :=
  h.kept (row := none) ⟨hb.os, hb.tape, hb.output, hb.size, fun k hk _ => hb.block k hk⟩ (by cases v.ownBlock <;> simp)
theorem Own.base {k : IntKind} {e : TypeId} {w : World} {b b' : Nat} {v : Value} {xs : List Int} (h : Own k e w b v xs) (hb : b' ≤ b) : Own k e w b' v xs := by
  refine ⟨h.1, ?_⟩
  rcases h.2 with h2 | ⟨g, cap, cur, rfl, hg, r⟩
  · exact .inl h2
  · exact .inr ⟨g, cap, cur, rfl, Nat.le_trans hb hg, r⟩
theorem Own.nil (k : IntKind) (e : TypeId) (w : World) (base : Nat) : Own k e w base (.slice none 0 0) [] := World.ownsRow_nil w base e 1

/-- Memory of the call's own in which xs lies, and may be written. -/
def Fr (k : IntKind) (B : Nat) (w : World) (v : Value) (xs : List Int) : Prop :=
  ∃ p c, v = .slice p xs.length c ∧ xs.length ≤ c ∧ c ≤ maxLen ∧
    (0 < xs.length → ∃ g o, p = some ⟨g, o, none⟩ ∧ B ≤ g ∧ ∀ i, i < xs.length → w.cell? ⟨g, o + i, none⟩ = some (.int k (xs.getD i 0)) ∧ w.frozen? ⟨g, o + i, none⟩ = false)
theorem Fr.rd {k : IntKind} {B : Nat} {w : World} {v : Value} {xs : List Int} (h : Fr k B w v xs) : ∃ p c, v = .slice p xs.length c ∧ xs.length ≤ c ∧ c ≤ maxLen ∧ Rd k w p xs := by
  obtain ⟨p, c, e, h1, h2, h3⟩ := h
  exact ⟨p, c, e, h1, h2, fun hx => by obtain ⟨g, o, e, _, hc⟩ := h3 hx; exact ⟨g, o, e, fun i hi => (hc i hi).1⟩⟩
theorem Fr.below {k : IntKind} {B : Nat} {w w' : World} {v : Value} {xs : List Int} (h : Fr k B w v xs) (hb : Below w.heap.size w w') : Fr k B w' v xs := by
  obtain ⟨p, c, e, h1, h2, h3⟩ := h
  refine ⟨p, c, e, h1, h2, fun hx => ?_⟩
  obtain ⟨g, o, e, hB, hc⟩ := h3 hx
  refine ⟨g, o, e, hB, fun i hi => ⟨cell_below hb (hc i hi).1, ?_⟩⟩
  rw [hb.frozen (World.block_lt_of_cell? w _ (hc i hi).1)]
  exact (hc i hi).2
theorem Fr.base {k : IntKind} {B B' : Nat} {w : World} {v : Value} {xs : List Int} (h : Fr k B w v xs) (hB : B' ≤ B) : Fr k B' w v xs := by
  obtain ⟨p, c, e, h1, h2, h3⟩ := h
  exact ⟨p, c, e, h1, h2, fun hx => by obtain ⟨g, o, e, hg, hc⟩ := h3 hx; exact ⟨g, o, e, Nat.le_trans hB hg, hc⟩⟩
theorem Fr.nil (k : IntKind) (B : Nat) (w : World) : Fr k B w (.slice none 0 0) [] := ⟨none, 0, rfl, Nat.le_refl _, by simp [maxLen], fun h => absurd h (Nat.lt_irrefl 0)⟩
theorem Own.fr {k : IntKind} {e : TypeId} {w : World} {B : Nat} {v : Value} {xs : List Int} (h : Own k e w B v xs) : Fr k B w v xs := by
  rcases h.2 with ⟨rfl, h0⟩ | ⟨g, cap, cur, rfl, hg, hh, h1, h2, h3, h4⟩
  · have : xs = [] := List.eq_nil_of_length_eq_zero h0
    subst this
    exact Fr.nil _ _ _
  · refine ⟨_, cap, rfl, h1, h2, fun _ => ⟨g, 0, rfl, hg, fun i hi => ?_⟩⟩
    have ho : w.ownsRow B e 1 (.slice (some ⟨g, 0, none⟩) xs.length cap) xs.length (xs.map (.int k)) := ⟨h.1, .inr ⟨g, cap, cur, rfl, hg, hh, h1, h2, h3, h4⟩⟩
    have := World.ownsRow.cellAt ho i (by omega)
    rw [Nat.zero_add, this]
    exact ⟨by simp [List.getD, List.getElem?_eq_getElem hi], World.ownsRow.frozenAt ho i⟩

/-! ### Octets and the library's bytes -/
def numsOf (l : List UInt8) : List Int := l.map fun x => (x.toNat : Int)
theorem numsOf_length (l : List UInt8) : (numsOf l).length = l.length := by simp [numsOf]
theorem numsOf_isB (l : List UInt8) : IsB (numsOf l) := by
  intro x hx
  obtain ⟨y, _, rfl⟩ := List.mem_map.1 hx
  have := y.toNat_lt
  omega
theorem numsOf_bytesOf {xs : List Int} (h : IsB xs) : numsOf (Lib.bytesOf xs) = xs := by
  induction xs with
  | nil => rfl
  | cons x xs ih =>
    have hx := h x (by simp)
    have ih' := ih (fun y hy => h y (by simp [hy]))
    simp only [numsOf, Lib.bytesOf, List.map_cons, List.map_map] at ih' ⊢
    rw [ih']
    congr 1
    simp
    omega
theorem bytesOf_inj {xs ys : List Int} (hx : IsB xs) (hy : IsB ys) (h : Lib.bytesOf xs = Lib.bytesOf ys) : xs = ys := by
  rw [← numsOf_bytesOf hx, ← numsOf_bytesOf hy, h]
theorem bytesOf_beq {xs ys : List Int} (hx : IsB xs) (hy : IsB ys) : (Lib.bytesOf xs == Lib.bytesOf ys) = decide (xs = ys) := by
  by_cases h : xs = ys
  · subst h; simp
  · simp only [h, decide_false, beq_eq_false_iff_ne]
    exact fun e => h (bytesOf_inj hx hy e)
theorem bytesOf_length (xs : List Int) : (Lib.bytesOf xs).length = xs.length := by simp [Lib.bytesOf]
theorem Rd.holds {w : World} {p : Option Addr} {xs : List Int} (h : Rd .u8 w p xs) (hb : IsB xs) (hn : p = none → xs = []) (c : Nat) : Lib.HoldsBytes w (.slice p xs.length c) (Lib.bytesOf xs) := by
  refine ⟨p, c, by rw [bytesOf_length], fun e => by rw [hn e]; rfl, fun a ha i x hi => ?_⟩
  have hl : i < xs.length := by
    have := (List.getElem?_eq_some_iff.1 hi).1
    simpa [Lib.bytesOf] using this
  obtain ⟨b, o, e, hc⟩ := h (by omega)
  rw [e] at ha
  obtain rfl := Option.some.inj ha
  rw [Addr.add_lit, hc i hl]
  have hr := hb xs[i] (List.getElem_mem hl)
  simp [Lib.bytesOf, List.getElem?_eq_getElem hl] at hi
  subst hi
  simp [List.getD, List.getElem?_eq_getElem hl]
  omega
theorem fr_of_fresh {B : Nat} {w : World} {v : Value} {l : List UInt8} (h : Lib.FreshBytes B w v l) : Fr .u8 B w v (numsOf l) := by
  obtain ⟨g, cap, zs, rfl, hB, h1, h2, h3, h4, h5, h6, h7⟩ := h
  refine ⟨some ⟨g, 0, none⟩, cap, by rw [numsOf_length], by rw [numsOf_length]; exact h1, h2, fun _ => ⟨g, 0, rfl, hB, fun i hi => ?_⟩⟩
  rw [numsOf_length] at hi
  have e : numsOf l = zs.take l.length := by
    conv => lhs; rw [← h5]
    exact numsOf_bytesOf fun x hx => h4 x (List.mem_of_mem_take hx)
  rw [Nat.zero_add, h6 i (by omega), e]
  refine ⟨?_, h7 i (by omega)⟩
  simp [List.getD, hi]

/-! ### copy -/
theorem setRow_alloc (w : World) (cs cs' : Array Value) (t : TypeId) : (w.alloc (.cells cs t)).setRow w.heap.size cs' = w.alloc (.cells cs' t) := by
  have e : ((w.heap.push (.cells cs t)).modify w.heap.size fun | .cells _ elem frozen => .cells cs' elem frozen | o => o) = w.heap.push (.cells cs' t) := by
    apply Array.ext
    · simp
    · intro i h1 h2
      simp only [Array.getElem_modify, Array.getElem_push]
      by_cases h : i < w.heap.size
      · simp only [h, dite_true]
        rw [if_neg (by omega)]
      · simp only [h, dite_false]
        rw [if_pos (by simp at h1; omega)]
  simp only [World.setRow, World.alloc]
  exact congrArg (fun h => World.mk h _ _ _ _) e
theorem run_copy_rd {P : Program} (w : World) (dT sT ty elem : TypeId) (hu : P.underlying dT = some (.slice elem)) (hsz : (P.info? elem).map (·.size) = some 1)
    (g off dLen dCap : Nat) (p : Option Addr) (k : IntKind) (xs : List Int) (sCap : Nat) (cur : List Value) (t : TypeId) (hg : w.heap[g]? = some (.cells cur.toArray t (0, 0)))
    (hr : Rd k w p xs) (hfit : off + min xs.length dLen ≤ cur.length) :
    (Builtin.copy_ #[dT, sT] ty #[.slice (some ⟨g, off, none⟩) dLen dCap, .slice p xs.length sCap]).run P w =
      .ok (goInt (min xs.length dLen : Nat)) (w.setRow g (splice cur off ((xs.map (.int k)).take dLen)).toArray) := by
  have hl : ((xs.map (Value.int k)).take dLen).length = min xs.length dLen := by simp [Nat.min_comm]
  by_cases h0 : min xs.length dLen = 0
  · rw [run_copy_none (P := P) w dT sT ty elem (some ⟨g, off, none⟩) p dLen dCap xs.length sCap hu hsz h0, h0]
    have : (xs.map (Value.int k)).take dLen = [] := List.eq_nil_of_length_eq_zero (by rw [hl, h0])
    rw [this, show splice cur off [] = cur by simp [splice], setRow_self w g _ t _ hg]
    rfl
  · have hx : 0 < xs.length := by omega
    obtain ⟨b, o, rfl, hc⟩ := hr hx
    rw [run_copy_row (P := P) w dT sT ty elem g off dLen dCap ⟨b, o, none⟩ xs.length sCap cur.toArray t ((xs.map (.int k)).take dLen) hu hsz hg hl (fun j v hj => ?_) (by rw [hl]; simpa using hfit) (fun u hu => ints_oneCell k xs u (List.mem_of_mem_take hu)), hl]
    · simp [splice, Nat.min_comm]
    · have hjl : j < ((xs.map (Value.int k)).take dLen).length := (List.getElem?_eq_some_iff.1 hj).1
      rw [hl] at hjl
      have hj2 : j < xs.length := by omega
      rw [Addr.add_lit, hc j hj2]
      rw [List.getElem?_take_of_lt (by omega), List.getElem?_map, List.getElem?_eq_getElem hj2] at hj
      simp at hj
      subst hj
      simp [List.getD, List.getElem?_eq_getElem hj2]
theorem wpList_copy_rd {P : Program} {w : World} {ops : Array Oper} {rest : List Oper} {o : Oper} {a : Act} {Q : Exit → Act → World → Prop} (hgd : o.guard = none) (d s : Operand) (dT sT : TypeId)
    (ho : o.op = .call { callee := .builtin .copy, args := #[d, s], argTypes := #[dT, sT] }) (elem : TypeId) (hu : P.underlying dT = some (.slice elem)) (hsz : (P.info? elem).map (·.size) = some 1)
    (g off dLen dCap : Nat) (p : Option Addr) (k : IntKind) (xs : List Int) (sCap : Nat) (hd : a.eval d = .slice (some ⟨g, off, none⟩) dLen dCap) (hs : a.eval s = .slice p xs.length sCap)
    (cur : List Value) (t : TypeId) (hg : w.heap[g]? = some (.cells cur.toArray t (0, 0))) (hr : Rd k w p xs) (hfit : off + min xs.length dLen ≤ cur.length)
    (h : wpList P ops Q rest (a.put o.dst (goInt (min xs.length dLen : Nat))) (w.setRow g (splice cur off ((xs.map (.int k)).take dLen)).toArray)) : wpList P ops Q (o :: rest) a w := by
  refine wpList_plain hgd fun K hK => ?_
  have hrun := run_copy_rd (P := P) w dT sT o.type elem hu hsz g off dLen dCap p k xs sCap cur t hg hr hfit
  unfold Oper.wp
  simp only [execOp, ho, resolve, invoke, builtin, hd, hs]
  simp [hd, hs, hrun, Result.andThen, -List.map_take]
  exact hK _ _ h
/-- copy into a row of the call's own, what is behind it told by its row alone. -/
theorem wpList_copy_rds {P : Program} {w : World} {ops : Array Oper} {rest : List Oper} {o : Oper} {a : Act} {Q : Exit → Act → World → Prop} (hgd : o.guard = none) (d s : Operand) (dT sT : TypeId)
    (ho : o.op = .call { callee := .builtin .copy, args := #[d, s], argTypes := #[dT, sT] }) (elem : TypeId) (hu : P.underlying dT = some (.slice elem)) (hsz : (P.info? elem).map (·.size) = some 1)
    (g off dLen dCap : Nat) (p : Option Addr) (k : IntKind) (xs : List Int) (sCap : Nat) (hd : a.eval d = .slice (some ⟨g, off, none⟩) dLen dCap) (hs : a.eval s = .slice p xs.length sCap)
    (cur : List Value) (t : TypeId) (hg : w.heap[g]? = some (.cells cur.toArray t (0, 0))) (hr : Rd k w p xs) (hfit : off + min xs.length dLen ≤ cur.length) (B : Nat) (w0 : World) (hb : Below B w0 w) (hBg : B ≤ g)
    (h : ∀ w', w'.heap[g]? = some (.cells (splice cur off ((xs.map (.int k)).take dLen)).toArray t (0, 0)) → Below B w0 w' → w.grownBy w' (some g) → wpList P ops Q rest (a.put o.dst (goInt (min xs.length dLen : Nat))) w') : wpList P ops Q (o :: rest) a w :=
  wpList_copy_rd hgd d s dT sT ho elem hu hsz g off dLen dCap p k xs sCap hd hs cur t hg hr hfit
    (h _ (setRow_heap w g _ _ t _ hg) (below_setRow hb hBg _) ⟨rfl, rfl, rfl, by simp [World.setRow], fun j _ hne => setRow_other w g j _ (fun e => hne (by rw [e]))⟩)
theorem below_new (w : World) (o : Obj) : Below w.heap.size w (w.alloc o) := (Below.refl _ _).alloc (Nat.le_refl _) _
/-- A part of a block of the call's own. -/
theorem fr_block {k : IntKind} {W : World} {g B : Nat} {ys : List Int} {t : TypeId} (hg : W.heap[g]? = some (.cells (ys.map (.int k)).toArray t (0, 0))) (hB : B ≤ g) (xs : List Int) (o c : Nat) (hc : xs.length ≤ c) (hm : c ≤ maxLen)
    (h : ∀ i, i < xs.length → ys[o + i]? = some (xs.getD i 0)) : Fr k B W (.slice (some ⟨g, o, none⟩) xs.length c) xs := by
  refine ⟨_, c, rfl, hc, hm, fun _ => ⟨g, o, rfl, hB, fun i hi => ⟨?_, frozen_of_row W g _ _ _ hg⟩⟩⟩
  rw [cell_of_row W g (o + i) _ _ _ hg]
  simp [h i hi]
theorem get_part {ys : List Int} (o n : Nat) (h : o + n ≤ ys.length) : ∀ i, i < ((ys.drop o).take n).length → ys[o + i]? = some (((ys.drop o).take n).getD i 0) := by
  intro i hi
  simp at hi
  rw [List.getElem?_eq_getElem (show o + i < ys.length by omega)]
  simp [List.getD, List.getElem?_take, List.getElem?_drop, show i < n by omega, show o + i < ys.length by omega]
/-- The same as one step of a region that draws its order. -/
theorem step_copy_rds {P : Program} {w : World} {ops : Array Oper} {o : Oper} {a : Act} {K : Act → World → Prop} {Q : Exit → Act → World → Prop} {E : Prop} (hgd : o.guard = none) (d s : Operand) (dT sT : TypeId)
    (ho : o.op = .call { callee := .builtin .copy, args := #[d, s], argTypes := #[dT, sT] }) (elem : TypeId) (hu : P.underlying dT = some (.slice elem)) (hsz : (P.info? elem).map (·.size) = some 1)
    (g off dLen dCap : Nat) (p : Option Addr) (k : IntKind) (xs : List Int) (sCap : Nat) (hd : a.eval d = .slice (some ⟨g, off, none⟩) dLen dCap) (hs : a.eval s = .slice p xs.length sCap)
    (cur : List Value) (t : TypeId) (hg : w.heap[g]? = some (.cells cur.toArray t (0, 0))) (hr : Rd k w p xs) (hfit : off + min xs.length dLen ≤ cur.length) (B : Nat) (w0 : World) (hb : Below B w0 w) (hBg : B ≤ g)
    (h : ∀ w', w'.heap[g]? = some (.cells (splice cur off ((xs.map (.int k)).take dLen)).toArray t (0, 0)) → Below B w0 w' → K (a.put o.dst (goInt (min xs.length dLen : Nat))) w') :
    if Region.wanted o (yielded ops a.tmps) = true then Oper.wp P o a w K Q else E := by
  have hw : Region.wanted o (yielded ops a.tmps) = true := by simp [Region.wanted, hgd]
  rw [if_pos hw]
  have hrun := run_copy_rd (P := P) w dT sT o.type elem hu hsz g off dLen dCap p k xs sCap cur t hg hr hfit
  unfold Oper.wp
  simp only [execOp, ho, resolve, invoke, builtin, hd, hs]
  simp [hd, hs, hrun, Result.andThen, -List.map_take]
  exact h _ (setRow_heap w g _ _ t _ hg) (below_setRow hb hBg _)
theorem heap_drew_new (w : World) (o : Obj) : (w.alloc o).drew.heap[w.heap.size]? = some o := heap_alloc_new w o
theorem own_block {k : IntKind} {e : TypeId} {W : World} {g B : Nat} {xs : List Int} (hg : W.heap[g]? = some (.cells (xs.map (.int k)).toArray e (0, 0))) (hB : B ≤ g) (n : Nat) (hn : xs.length = n) (hm : n ≤ maxLen) :
    Own k e W B (.slice (some ⟨g, 0, none⟩) n n) xs := by
  subst hn
  exact ⟨by simp, .inr ⟨g, _, _, rfl, hB, hg, Nat.le_refl _, hm, by simp, by simp [-List.map_take]; rw [List.take_of_length_le (by simp)]⟩⟩
theorem ret_true {b : Bool} (h : b = true) : Ending.returned (.bool b) = .returned (.bool true) := by rw [h]

end Go.Proofs.YtnbhhdncbajkgaaGreatDoor
