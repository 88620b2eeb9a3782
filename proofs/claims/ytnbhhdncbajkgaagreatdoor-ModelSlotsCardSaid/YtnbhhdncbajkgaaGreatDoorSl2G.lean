/- slots.directory. -/
import Derived.Test.YtnbhhdncbajkgaaGreatDoorSl1G
import Derived.Test.YtnbhhdncbajkgaaGreatDoorG3
namespace Go.Proofs.YtnbhhdncbajkgaaGreatDoor
set_option linter.unusedVariables false
set_option linter.unusedSimpArgs false
open Go.RowKit Go.Shelf
def goodAt (s : Sl) (i : Nat) : Prop := (s.ids.getD i 0 = -1 ∧ s.vecs.getD i [] = []) ∨ (0 ≤ s.ids.getD i 0 ∧ s.ids.getD i 0 ≤ 2147483647 ∧ fitsV s.dim (s.vecs.getD i []) ∧ ∀ j, j < i → s.ids.getD j 0 ≠ s.ids.getD i 0)
/-- Whether slots may be. -/
def dirOK (s : Sl) : Prop := (1 ≤ s.dim ∧ s.dim ≤ 64) ∧ (1 ≤ s.ids.length ∧ s.ids.length ≤ 256) ∧ s.vecs.length = s.ids.length ∧ ∀ i, i < s.ids.length → goodAt s i
/-- Where each id is, among the first ones. -/
def dirF (s : Sl) : Nat → Int → Option Int
  | 0 => fun _ => none
  | k + 1 => if s.ids.getD k 0 = -1 then dirF s k else fun z => if z = s.ids.getD k 0 then some (k : Int) else dirF s k z
theorem dirF_neg (s : Sl) : ∀ k, dirF s k (-1) = none
  | 0 => rfl
  | k + 1 => by
    unfold dirF
    split
    · exact dirF_neg s k
    · rename_i h
      show (if -1 = s.ids.getD k 0 then _ else _) = none
      rw [if_neg (fun e => h e.symm)]; exact dirF_neg s k
theorem dirF_some (s : Sl) {z : Int} (hz : z ≠ -1) : ∀ k, (dirF s k z).isSome = true ↔ ∃ j, j < k ∧ s.ids.getD j 0 = z
  | 0 => by simp [dirF]
  | k + 1 => by
    have ih := dirF_some s hz k
    unfold dirF
    split
    · rename_i h
      rw [ih]
      constructor
      · rintro ⟨j, h1, h2⟩; exact ⟨j, by omega, h2⟩
      · rintro ⟨j, h1, h2⟩
        by_cases e : j = k
        · subst e; exact absurd (h.symm.trans h2).symm hz
        · exact ⟨j, by omega, h2⟩
    · rename_i h
      show (if z = s.ids.getD k 0 then some (k : Int) else dirF s k z).isSome = true ↔ _
      split
      · rename_i e
        exact ⟨fun _ => ⟨k, by omega, e.symm⟩, fun _ => rfl⟩
      · rename_i e
        rw [ih]
        constructor
        · rintro ⟨j, h1, h2⟩; exact ⟨j, by omega, h2⟩
        · rintro ⟨j, h1, h2⟩
          by_cases e' : j = k
          · subst e'; exact absurd h2.symm e
          · exact ⟨j, by omega, h2⟩
theorem dirF_skip {s : Sl} {k : Nat} (h : s.ids.getD k 0 = -1) : dirF s (k + 1) = dirF s k := if_pos h
theorem dirF_put {s : Sl} {k : Nat} (h : s.ids.getD k 0 ≠ -1) : (fun z => if z = s.ids.getD k 0 then some (k : Int) else dirF s k z) = dirF s (k + 1) := (if_neg h).symm
/-- What a slot is: empty; of somebody who was met; not an id; whose vector does not fit; good. -/
theorem slot_is (s : Sl) (k : Nat) :
    (s.ids.getD k 0 = -1 ∧ s.vecs.getD k [] = [] ∧ goodAt s k) ∨
    (¬ (s.ids.getD k 0 = -1 ∧ s.vecs.getD k [] = []) ∧ (dirF s k (s.ids.getD k 0)).isSome = true ∧ ¬ goodAt s k) ∨
    (¬ (s.ids.getD k 0 = -1 ∧ s.vecs.getD k [] = []) ∧ (dirF s k (s.ids.getD k 0)).isSome = false ∧ ¬ (0 ≤ s.ids.getD k 0 ∧ s.ids.getD k 0 ≤ 2147483647) ∧ ¬ goodAt s k) ∨
    (s.ids.getD k 0 ≠ -1 ∧ (dirF s k (s.ids.getD k 0)).isSome = false ∧ (0 ≤ s.ids.getD k 0 ∧ s.ids.getD k 0 ≤ 2147483647) ∧ ¬ fitsV s.dim (s.vecs.getD k []) ∧ ¬ goodAt s k) ∨
    (s.ids.getD k 0 ≠ -1 ∧ (dirF s k (s.ids.getD k 0)).isSome = false ∧ (0 ≤ s.ids.getD k 0 ∧ s.ids.getD k 0 ≤ 2147483647) ∧ fitsV s.dim (s.vecs.getD k []) ∧ goodAt s k) := by
  have hS := dirF_some s (z := s.ids.getD k 0)
  have hNeg := dirF_neg s k
  unfold goodAt
  generalize s.vecs.getD k [] = v at *
  generalize s.ids.getD k 0 = x at *
  by_cases h0 : x = -1 ∧ v = []
  · exact .inl ⟨h0.1, h0.2, .inl h0⟩
  by_cases h1 : (dirF s k x).isSome = true
  · have hx : x ≠ -1 := fun e => by rw [e, hNeg] at h1; cases h1
    refine .inr (.inl ⟨h0, h1, ?_⟩)
    rintro (h | ⟨_, _, _, h⟩)
    · exact h0 h
    · obtain ⟨j, hj, e⟩ := (hS hx k).1 h1
      exact h j hj e
  have h1' : (dirF s k x).isSome = false := by cases hh : (dirF s k x).isSome <;> simp_all
  by_cases h2 : 0 ≤ x ∧ x ≤ 2147483647
  · have hx : x ≠ -1 := by omega
    by_cases h3 : fitsV s.dim v
    · exact .inr (.inr (.inr (.inr ⟨hx, h1', h2, h3, .inr ⟨h2.1, h2.2, h3, fun j hj e => h1 ((hS hx k).2 ⟨j, hj, e⟩)⟩⟩)))
    · refine .inr (.inr (.inr (.inl ⟨hx, h1', h2, h3, ?_⟩)))
      rintro (h | ⟨_, _, h, _⟩)
      · exact h0 h
      · exact h3 h
  · refine .inr (.inr (.inl ⟨h0, h1', h2, ?_⟩))
    rintro (h | ⟨a, b, _, _⟩)
    · exact h0 h
    · exact h2 ⟨a, b⟩
/-- What directory hands back. -/
def DirR (w : World) (m : Mem) (s : Sl) (e : Ending) (w' : World) : Prop :=
  (dirOK s ∧ ∃ b n, n ≤ 256 ∧ e = .returned (.tuple #[.map (some b), .bool true]) ∧ St [] w m w' [.obj b (MapI Tryz.prog 2 3 .i64 .i64 n (dirF s s.ids.length))] m) ∨ (¬ dirOK s ∧ e = .returned (.tuple #[.map none, .bool false]) ∧ St [] w m w' [] m)
section
open Go.Maps (Keyed)
variable {P : Program} {X : List Nat} {w0 w : World} {m0 m : Mem} {es : List Ent} {o : Oper} {a : Act} {K : Act → World → Prop} {Q : Exit → Act → World → Prop} {ops : Array Oper}
variable {rest : List Oper} {dst : Option Tmp} {rt : TypeId} {pos : String} {af : Array Edge} {E : Prop} {t k e : TypeId} {q r : IntKind} {b n : Nat} {f f' : Int → Option Int}
theorem op_makeMapN {x : Operand} {y : Int} (hS : St X w0 m0 w es m) (ho : o.op = .makeMap t (some x)) (hT : MapT P t k e q r) (hx : a.eval x = .int .i64 y) (h : ∀ w' b, St X w0 m0 w' (.obj b (MapI P k e q r 0 (fun _ => none)) :: es) m → K (a.put o.dst (.map (some b))) w') : o.wp P a w K Q := by
  have hok : (Ent.obj w.heap.size (MapI P k e q r 0 (fun _ => none))).ok (w.alloc (.map #[] 0)) := mapI_of (World.ownsMap_made (H := Unit) w P k (plainElem P e)) fun x _ => ⟨rfl, fun z => rfl⟩
  have hrun : (Instr.makeMap t (some (.int .i64 y))).run P w = .ok (.map (some w.heap.size)) (w.alloc (.map #[] 0)) := by
    simp [Instr.makeMap, underlying, hT.ht, asInt]
    rfl
  unfold Oper.wp execOp
  simp only [ho, Sem.run_bind, Sem.run_pure, Result.andThen_ok, Option.map_some, hx, hrun]
  exact h _ _ (hS.add _ (World.grownBy_alloc w _ none) hok (fun b hb => by cases hb; exact Nat.le_refl _))
theorem wl_makeMapN {x : Operand} {y : Int} (hS : St X w0 m0 w es m) (hT : MapT P t k e q r) (hx : a.eval x = .int .i64 y) (h : ∀ w' b, St X w0 m0 w' (.obj b (MapI P k e q r 0 (fun _ => none)) :: es) m → wpList P ops Q rest (a.put dst (.map (some b))) w') : Wl P ops Q (⟨dst, .makeMap t (some x), rt, pos, af, none⟩ :: rest) a w :=
  ⟨wpList_plain rfl fun K hK => op_makeMapN hS rfl hT hx fun w' b hw => hK _ _ (h w' b hw)⟩
theorem wl_lookup2 (hS : St X w0 m0 w es m) (hT : MapT P t k e q r) {mp x : Operand} {y v : Int} {B : Bool} (hm : a.eval mp = .map (some b)) (hM : Ent.obj b (MapI P k e q r n f) ∈ es) (hx : a.eval x = .int q y) (hy : InK q y) (hv : (f y).getD 0 = v ∧ (f y).isSome = B) (h : wpList P ops Q rest (a.put dst (.tuple #[.int r v, .bool B])) w) :
    Wl P ops Q (⟨dst, .lookup t mp x true, rt, pos, af, none⟩ :: rest) a w :=
  ⟨wpList_plain rfl fun K hK => op_lookup2 hS mp x rfl hT.hk hT.ht hT.he hT.hz hm hM hx (inK_wf hy) (by rw [hv.1, hv.2]; exact hK _ _ h)⟩
end
end Go.Proofs.YtnbhhdncbajkgaaGreatDoor
