/- The law's few and live. -/
import Derived.Test.YtnbhhdncbajkgaaGreatDoorSc5G
namespace Go.Proofs.YtnbhhdncbajkgaaGreatDoor
set_option linter.unusedVariables false
set_option linter.unusedSimpArgs false
open Go.RowKit Go.Shelf
abbrev book0 : Value := .agg #[.int .i64 0, .slice none 0 0]
def sl0 : Sl := ⟨1, [4, 5, 6], [[1], [9], [5]]⟩
theorem vec1 {m : Mem} {b : Nat} {x : Int} (h : m ⟨b, 0, none⟩ = some (.int .i16 x)) (hx : InK .i16 x) : vecL.rd m [.slice (some ⟨b, 0, none⟩) 1 1] [x] :=
  ⟨_, 1, rfl, Nat.le_refl _, by simp [maxLen], by simp [Lay.int, kBytes], rowInt (by simpa using hx) fun _ => ⟨b, 0, rfl, fun i hi => by
    have : i = 0 := by simp at hi; omega
    subst this; exact h⟩⟩
theorem live_sl {m : Mem} {b4 b5 b6 b7 b8 : Nat} (h4 : ∀ j v, [Value.int .i64 4, .int .i64 5, .int .i64 6][j]? = some v → m ⟨b4, j, none⟩ = some v)
    (h5 : m ⟨b5, 0, none⟩ = some (.int .i16 1)) (h6 : m ⟨b6, 0, none⟩ = some (.int .i16 9)) (h7 : m ⟨b7, 0, none⟩ = some (.int .i16 5))
    (h8 : ∀ j v, [Value.slice (some ⟨b5, 0, none⟩) 1 1, .slice (some ⟨b6, 0, none⟩) 1 1, .slice (some ⟨b7, 0, none⟩) 1 1][j]? = some v → m ⟨b8, j, none⟩ = some v) :
    slL.rd m [.int .i64 1, .slice (some ⟨b4, 0, none⟩) 3 3, .slice (some ⟨b8, 0, none⟩) 3 3] sl0 := by
  refine slL_mk (s := sl0) (inK64 (by decide) (by decide)) ⟨_, 3, rfl, Nat.le_refl _, by simp [maxLen], by simp [Lay.int, kBytes, sl0], rowInt ?_ fun _ => ⟨b4, 0, rfl, fun i hi => ?_⟩⟩ ⟨_, 3, rfl, Nat.le_refl _, by simp [maxLen], by decide, fun _ => ⟨b8, 0, rfl, fun i z hz => ?_⟩⟩
  · intro x hx; simp [sl0] at hx; rcases hx with rfl | rfl | rfl <;> exact inK64 (by decide) (by decide)
  · match i, hi with
    | 0, _ => exact h4 0 _ rfl
    | 1, _ => exact h4 1 _ rfl
    | 2, _ => exact h4 2 _ rfl
  · match i, hz with
    | 0, hz => cases hz; exact ⟨_, vec1 h5 ⟨by decide, by decide⟩, fun j v hj => by match j, hj with | 0, hj => exact h8 0 v hj⟩
    | 1, hz => cases hz; exact ⟨_, vec1 h6 ⟨by decide, by decide⟩, fun j v hj => by match j, hj with | 0, hj => exact h8 1 v hj⟩
    | 2, hz => cases hz; exact ⟨_, vec1 h7 ⟨by decide, by decide⟩, fun j v hj => by match j, hj with | 0, hj => exact h8 2 v hj⟩
theorem fine1 {x : Int} (h : -32767 ≤ x) : fineV [x] := ⟨by simp, by simp, by simpa using h⟩
theorem dir0 : dirOK sl0 := by
  refine ⟨by simp [sl0], by simp [sl0], rfl, fun i hi => .inr ?_⟩
  match i, hi with
  | 0, _ => exact ⟨by decide, by decide, ⟨fine1 (by decide), rfl⟩, fun j hj => by omega⟩
  | 1, _ => exact ⟨by decide, by decide, ⟨fine1 (by decide), rfl⟩, fun j hj => by (match j, hj with | 0, _ => decide)⟩
  | 2, _ => exact ⟨by decide, by decide, ⟨fine1 (by decide), rfl⟩, fun j hj => by (match j, hj with | 0, _ => decide | 1, _ => decide)⟩
theorem may0 : mayP sl0 [2] 1 := ⟨dir0, fine1 (by decide), rfl, by decide, by decide⟩
theorem brute0 : bruteR sl0 [2] 1 = [⟨1, 4⟩] := by
  have d1 : dN [1] [2] = 1 := if_pos ⟨fine1 (by decide), fine1 (by decide), rfl⟩
  have d2 : dN [9] [2] = 49 := if_pos ⟨fine1 (by decide), fine1 (by decide), rfl⟩
  have d3 : dN [5] [2] = 9 := if_pos ⟨fine1 (by decide), fine1 (by decide), rfl⟩
  have e : hitsOf sl0 [2] 3 = [⟨1, 4⟩, ⟨49, 5⟩, ⟨9, 6⟩] := by simp [hitsOf, sl0, d1, d2, d3]
  unfold bruteR
  rw [if_pos may0]
  show near 1 (hitsOf sl0 [2] 3) = _
  rw [e]
  decide +kernel
end Go.Proofs.YtnbhhdncbajkgaaGreatDoor
