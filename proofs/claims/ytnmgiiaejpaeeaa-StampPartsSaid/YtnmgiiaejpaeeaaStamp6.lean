/- The chapter's example of the laws of package stamp; the laws' callees in the forms in which they are met. -/
import Derived.Test.YtnmgiiaejpaeeaaStamp1
import Derived.Test.YtnmgiiaejpaeeaaStamp2
import Derived.Test.YtnmgiiaejpaeeaaStamp4
import Derived.Test.YtnmgiiaejpaeeaaStamp5
namespace Go.Proofs.Ytnmgiiaejpaeeaa
set_option linter.unusedVariables false
set_option linter.unusedSimpArgs false
open Go.RowKit

theorem pair_ok (g a : Int) (h : pairOK g a) (w : World) : Calls Try.prog 24 #[.int .i64 g, .int .i64 a] w fun e w' => e = .returned (.tuple #[.int .i64 (g * 1048576 + a), .int .i64 0]) ∧ w = w' := by
  have := pair_any g a w
  rwa [show pairV g a = g * 1048576 + a from if_pos h, show pairE g a = 0 from if_pos h] at this
theorem pair_bad (g a : Int) (h : ¬ pairOK g a) (w : World) : Calls Try.prog 24 #[.int .i64 g, .int .i64 a] w fun e w' => e = .returned (.tuple #[.int .i64 0, .int .i64 1]) ∧ w = w' := by
  have := pair_any g a w
  rwa [show pairV g a = 0 from if_neg h, show pairE g a = 1 from if_neg h] at this
def partOK (s : Int) : Prop := 1 ≤ s / 1048576 ∧ s / 1048576 ≤ 1099511627776
instance (s : Int) : Decidable (partOK s) := inferInstanceAs (Decidable (_ ∧ _))
theorem part_ok (s : Int) (h : partOK s) (w : World) : Calls Try.prog 25 #[.int .i64 s] w fun e w' => e = .returned (.tuple #[.int .i64 (s / 1048576), .int .i64 (s % 1048576), .int .i64 0]) ∧ w = w' := by
  have := part_any s w
  rwa [show partG s = s / 1048576 from if_pos h, show partA s = s % 1048576 from if_pos h, show partE s = 0 from if_pos h] at this
theorem part_bad (s : Int) (h : ¬ partOK s) (w : World) : Calls Try.prog 25 #[.int .i64 s] w fun e w' => e = .returned (.tuple #[.int .i64 0, .int .i64 0, .int .i64 1]) ∧ w = w' := by
  have := part_any s w
  rwa [show partG s = 0 from if_neg h, show partA s = 0 from if_neg h, show partE s = 1 from if_neg h] at this

theorem rd_lit (w : World) (x : Int) : Rd .u8 (w.alloc (.cells #[.int .u8 x] 5)) (some ⟨w.heap.size, 0, none⟩) [x] := fun _ => ⟨_, 0, rfl, fun i hi => by
  obtain rfl : i = 0 := by simpa using hi
  rw [Nat.add_zero, cell_of_row _ _ 0 _ _ _ (heap_alloc_new w _)]; rfl⟩
theorem live_seal (w : World) : Calls Try.prog 22 #[.int .i64 3145733, .slice (some ⟨w.heap.size, 0, none⟩) 1 1] (w.alloc (.cells #[.int .u8 7] 5)) fun e w' =>
    ∃ p c, e = .returned (.tuple #[.slice p 32 c, .int .i64 0]) ∧ Rd .u8 w' p (sealB 3145733 [7]) ∧ 32 ≤ c ∧ c ≤ maxLen ∧ Below w.heap.size w w' := by
  refine (seal_any 3145733 _ 1 [7] _ (rd_lit w 7) (by intro x hx; simp at hx; omega) (by simp) (by simp)).mono ?_
  rintro e w' ⟨v, rfl, hf, hb⟩
  rw [show sealR 3145733 [7] = sealB 3145733 [7] by decide] at hf
  obtain ⟨p, c, rfl, h1, h2, h3⟩ := hf.rd
  exact ⟨p, c, by rw [show sealE 3145733 [(7 : Int)].length = 0 by decide]; rfl, h3, h1, h2, (below_new _ _).trans (hb.mono (by simp))⟩
theorem live_open (p : Option Addr) (c : Nat) (w : World) (hr : Rd .u8 w p (sealB 3145733 [7])) (hc : 32 ≤ c) (hm : c ≤ maxLen) : Calls Try.prog 23 #[.slice p 32 c] w fun e w' =>
    ∃ b o c', e = .returned (.tuple #[.int .i64 3145733, .slice (some ⟨b, o, none⟩) 16 c', .int .i64 0]) ∧ 16 ≤ c' ∧ c' ≤ maxLen ∧ w'.cell? ⟨b, o, none⟩ = some (.int .u8 7) ∧ Below w.heap.size w w' := by
  refine (open_any p c (sealB 3145733 [7]) w hr (sealB_isB _ (by intro x hx; simp at hx; omega)) hc hm).mono ?_
  rintro e w' ⟨v, rfl, hf, hb⟩
  rw [show openP (sealB 3145733 [7]) = [7, 0, 0, 0, 0, 0, 0, 0, 0, 0, 0, 0, 0, 0, 0, 0] by decide] at hf
  obtain ⟨p', c', rfl, h1, h2, h3⟩ := hf.rd
  obtain ⟨b, o, rfl, hc⟩ := h3 (by simp)
  refine ⟨b, o, c', ?_, h1, h2, by simpa using hc 0 (by simp), hb⟩
  rw [show openN (sealB 3145733 [7]) = 3145733 by decide, show openE (sealB 3145733 [7]) = 0 by decide]; rfl
set_option maxRecDepth 100000 in
theorem live_any (w : World) : Calls Try.prog 21 #[] w fun e w' => e = .returned (.bool true) ∧ Below w.heap.size w w' := by
  go_enter Try.func21, Try.ntmps21
  go_wp2_with fail
  refine (pair_ok 3 5 (by decide) _).mono ?_
  rintro e w1 ⟨rfl, rfl⟩
  go_wp2_with fail
  refine (live_seal _).mono ?_
  rintro e w1 ⟨p, c, rfl, hr, hc, hm, hb⟩
  unfold maxLen at hm
  go_wp2_with fail
  refine (live_open p c w1 hr hc hm).mono ?_
  rintro e w2 ⟨b, o, c', rfl, hc', hm', hcell, hb2⟩
  unfold maxLen at hm'
  go_wp2
  go_ret
  exact ⟨rfl, hb.trans (hb2.mono hb.size)⟩
end Go.Proofs.Ytnmgiiaejpaeeaa
