/- The law's live. -/
import Derived.Test.YtnbhhdncbajkgaaGreatDoorSc6G
namespace Go.Proofs.YtnbhhdncbajkgaaGreatDoor
set_option linter.unusedVariables false
set_option linter.unusedSimpArgs false
open Go.RowKit Go.Shelf
theorem el_vec : Elem Tryz.prog 26 51 1 2 (.int .i16 0) := ⟨Tryz.underlying26, by kernel_rfl, rfl, by decide⟩
theorem el_vecs : Elem Tryz.prog 30 26 1 24 (.slice none 0 0) := ⟨Tryz.underlying30, by kernel_rfl, rfl, by decide⟩
theorem one_hit {m : Mem} {b : Nat} {x : Hit} (h : ∀ j v, [Value.int .i64 x.dist, .int .i64 x.id][j]? = some v → m ⟨b, j, none⟩ = some v) (hx : InK .i64 x.dist ∧ InK .i64 x.id) : hitL.list.rd m [.slice (some ⟨b, 0, none⟩) 1 1] [x] := by
  refine ⟨_, 1, rfl, Nat.le_refl _, by simp [maxLen], by show 1 * 16 ≤ _; decide, fun _ => ⟨b, 0, rfl, fun i z hz => ?_⟩⟩
  match i, hz with
  | 0, hz => cases hz; exact ⟨_, hitL_mk hx.1 hx.2, fun j v hj => by
      have := (List.getElem?_eq_some_iff.1 hj).1
      refine (congrArg m ?_).trans (h j v hj)
      simp⟩
end Go.Proofs.YtnbhhdncbajkgaaGreatDoor
