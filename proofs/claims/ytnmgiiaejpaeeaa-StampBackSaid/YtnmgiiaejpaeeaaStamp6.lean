/- The chapter's example of the laws of package stamp; the laws' callees in the forms in which they are met. -/
import Derived.Test.YtnmgiiaejpaeeaaStamp1
import Derived.Test.YtnmgiiaejpaeeaaStamp2
import Derived.Test.YtnmgiiaejpaeeaaStamp4
import Derived.Test.YtnmgiiaejpaeeaaStamp5
namespace Go.Proofs.Ytnmgiiaejpaeeaa
set_option linter.unusedVariables false
set_option linter.unusedSimpArgs false
open Go.RowKit

theorem pair_ok (g a : Int) (h : pairOK g a) (w : World) : Calls Try.prog 24 #[.int .i64 g, .int .i64 a] w fun e w' => e = .returned (.tuple #[.int .i64 (g * 1048576 + a), .int .i64 0]) ∧ w = w' := by
  have := pair_any g a w
  rwa [show pairV g a = g * 1048576 + a from if_pos h, show pairE g a = 0 from if_pos h] at this
theorem pair_bad (g a : Int) (h : ¬ pairOK g a) (w : World) : Calls Try.prog 24 #[.int .i64 g, .int .i64 a] w fun e w' => e = .returned (.tuple #[.int .i64 0, .int .i64 1]) ∧ w = w' := by
  have := pair_any g a w
  rwa [show pairV g a = 0 from if_neg h, show pairE g a = 1 from if_neg h] at this
def partOK (s : Int) : Prop := 1 ≤ s / 1048576 ∧ s / 1048576 ≤ 1099511627776
instance (s : Int) : Decidable (partOK s) := inferInstanceAs (Decidable (_ ∧ _))
theorem part_ok (s : Int) (h : partOK s) (w : World) : Calls Try.prog 25 #[.int .i64 s] w fun e w' => e = .returned (.tuple #[.int .i64 (s / 1048576), .int .i64 (s % 1048576), .int .i64 0]) ∧ w = w' := by
  have := part_any s w
  rwa [show partG s = s / 1048576 from if_pos h, show partA s = s % 1048576 from if_pos h, show partE s = 0 from if_pos h] at this
theorem part_bad (s : Int) (h : ¬ partOK s) (w : World) : Calls Try.prog 25 #[.int .i64 s] w fun e w' => e = .returned (.tuple #[.int .i64 0, .int .i64 0, .int .i64 1]) ∧ w = w' := by
  have := part_any s w
  rwa [show partG s = 0 from if_neg h, show partA s = 0 from if_neg h, show partE s = 1 from if_neg h] at this

theorem rd_lit (w : World) (x : Int) : Rd .u8 (w.alloc (.cells #[.int .u8 x] 5)) (some ⟨w.heap.size, 0, none⟩) [x] := fun _ => ⟨_, 0, rfl, fun i hi => by
  obtain rfl : i = 0 := by simpa using hi
  rw [Nat.add_zero, cell_of_row _ _ 0 _ _ _ (heap_alloc_new w _)]; rfl⟩
theorem live_seal (w : World) : Calls Try.prog 22 #[.int .i64 3145733, .slice (some ⟨w.heap.size, 0, none⟩) 1 1] (w.alloc (.cells #[.int .u8 7] 5)) fun e w' =>
    ∃ p c, e = .returned (.tuple #[.slice p 32 c, .int .i64 0]) ∧ Rd .u8 w' p (sealB 3145733 [7]) ∧ 32 ≤ c ∧ c ≤ maxLen ∧ Below w.heap.size w w' := by
  refine (seal_any 3145733 _ 1 [7] _ (rd_lit w 7) (by intro x hx; simp at hx; omega) (by simp) (by simp)).mono ?_
  rintro e w' ⟨v, rfl, hf, hb⟩
  rw [show sealR 3145733 [7] = sealB 3145733 [7] by decide] at hf
  obtain ⟨p, c, rfl, h1, h2, h3⟩ := hf.rd
  exact ⟨p, c, by rw [show sealE 3145733 [(7 : Int)].length = 0 by decide]; rfl, h3, h1, h2, (below_new _ _).trans (hb.mono (by simp))⟩
theorem live_open (p : Option Addr) (c : Nat) (w : World) (hr : Rd .u8 w p (sealB 3145733 [7])) (hc : 32 ≤ c) (hm : c ≤ maxLen) : Calls Try.prog 23 #[.slice p 32 c] w fun e w' =>
    ∃ b o c', e = .returned (.tuple #[.int .i64 3145733, .slice (some ⟨b, o, none⟩) 16 c', .int .i64 0]) ∧ 16 ≤ c' ∧ c' ≤ maxLen ∧ w'.cell? ⟨b, o, none⟩ = some (.int .u8 7) ∧ Below w.heap.size w w' := by
  refine (open_any p c (sealB 3145733 [7]) w hr (sealB_isB _ (by intro x hx; simp at hx; omega)) hc hm).mono ?_
  rintro e w' ⟨v, rfl, hf, hb⟩
  rw [show openP (sealB 3145733 [7]) = [7, 0, 0, 0, 0, 0, 0, 0, 0, 0, 0, 0, 0, 0, 0, 0] by decide] at hf
  obtain ⟨p', c', rfl, h1, h2, h3⟩ := hf.rd
  obtain ⟨b, o, rfl, hc⟩ := h3 (by simp)
  refine ⟨b, o, c', ?_, h1, h2, by simpa using hc 0 (by simp), hb⟩
  rw [show openN (sealB 3145733 [7]) = 3145733 by decide, show openE (sealB 3145733 [7]) = 0 by decide]; rfl
set_option maxRecDepth 100000 in
theorem live_any (w : World) : Calls Try.prog 21 #[] w fun e w' => e = .returned (.bool true) ∧ Below w.heap.size w w' := by
  go_enter Try.func21, Try.ntmps21
  go_wp2_with fail
  refine (pair_ok 3 5 (by decide) _).mono ?_
  rintro e w1 ⟨rfl, rfl⟩
  go_wp2_with fail
  refine (live_seal _).mono ?_
  rintro e w1 ⟨p, c, rfl, hr, hc, hm, hb⟩
  unfold maxLen at hm
  go_wp2_with fail
  refine (live_open p c w1 hr hc hm).mono ?_
  rintro e w2 ⟨b, o, c', rfl, hc', hm', hcell, hb2⟩
  unfold maxLen at hm'
  go_wp2
  go_ret
  exact ⟨rfl, hb.trans (hb2.mono hb.size)⟩
/-! ### What is sealed opens -/
theorem un8_seal (n : Int) (xs : List Int) (h1 : 1 ≤ n) (h2 : n ≤ 4611686018427387904) : un8 (sealB n xs) = n := by
  show n % 256 + n / 256 % 256 * 256 + n / 65536 % 256 * 65536 + n / 16777216 % 256 * 16777216 + n / 4294967296 % 256 * 4294967296 + n / 1099511627776 % 256 * 1099511627776 + n / 281474976710656 % 256 * 281474976710656 + n / 72057594037927936 % 256 * 72057594037927936 = n
  omega
theorem take8_seal (n : Int) (xs : List Int) : (sealB n xs).take 8 = le8 n := rfl
theorem drop8_seal (n : Int) (xs : List Int) : (sealB n xs).drop 8 = pad16 xs ++ le8 n := rfl
theorem drop24_seal (n : Int) (xs : List Int) (hx : xs.length ≤ 16) : (sealB n xs).drop 24 = le8 n := by
  rw [show (24 : Nat) = 8 + 16 from rfl, ← List.drop_drop, drop8_seal, List.drop_append_of_le_length (by rw [pad16_length hx]; exact Nat.le_refl _), List.drop_eq_nil_of_le (by rw [pad16_length hx]; exact Nat.le_refl _), List.nil_append]
theorem openE_seal (n : Int) (xs : List Int) (h1 : 1 ≤ n) (h2 : n ≤ 4611686018427387904) (hx : xs.length ≤ 16) : openE (sealB n xs) = 0 := by
  unfold openE
  rw [if_neg (by rw [sealB_length n hx]; simp), take8_seal, drop24_seal n xs hx, un8_seal n xs h1 h2, if_neg (by rintro (h | h); exact h rfl; omega), if_neg (by omega)]
theorem openP_seal (n : Int) (xs : List Int) (h1 : 1 ≤ n) (h2 : n ≤ 4611686018427387904) (hx : xs.length ≤ 16) : openP (sealB n xs) = pad16 xs := by
  unfold openP
  rw [if_pos (openE_seal n xs h1 h2 hx), drop8_seal, List.take_append_of_le_length (by rw [pad16_length hx]; exact Nat.le_refl _), List.take_of_length_le (by rw [pad16_length hx]; exact Nat.le_refl _)]
def sealOK (n : Int) (m : Nat) : Prop := 1 ≤ n ∧ n ≤ 4611686018427387904 ∧ m ≤ 16
theorem seal_ok (n : Int) (p : Option Addr) (c : Nat) (xs : List Int) (w : World) (h : sealOK n xs.length) (hr : Rd .u8 w p xs) (hb : IsB xs) (hc : xs.length ≤ c) : Calls Try.prog 22 #[.int .i64 n, .slice p xs.length c] w fun e w' =>
    ∃ q d, e = .returned (.tuple #[.slice q 32 d, .int .i64 0]) ∧ Rd .u8 w' q (sealB n xs) ∧ 32 ≤ d ∧ d ≤ maxLen ∧ Below w.heap.size w w' := by
  obtain ⟨h1, h2, h3⟩ := h
  have hE : sealE n xs.length = 0 := by unfold sealE; rw [if_neg (by omega), if_neg (by omega)]
  refine (seal_any n p c xs w hr hb hc (by omega)).mono ?_
  rintro e w' ⟨v, rfl, hf, hb⟩
  rw [show sealR n xs = sealB n xs by unfold sealR; rw [if_pos hE]] at hf
  obtain ⟨q, d, rfl, h4, h5, h6⟩ := hf.rd
  rw [sealB_length n h3] at h4 ⊢
  exact ⟨q, d, by rw [hE], h6, h4, h5, hb⟩
theorem seal_bad (n : Int) (p : Option Addr) (c : Nat) (xs : List Int) (w : World) (h : ¬ sealOK n xs.length) (hr : Rd .u8 w p xs) (hb : IsB xs) (hc : xs.length ≤ c) (hm : c ≤ maxLen) : Calls Try.prog 22 #[.int .i64 n, .slice p xs.length c] w fun e w' =>
    ∃ (q : Option Addr) (d : Nat) (k : Int), e = .returned (.tuple #[.slice q 0 d, .int .i64 k]) ∧ 1 ≤ k ∧ Below w.heap.size w w' := by
  have hE : sealE n xs.length = 1 ∨ sealE n xs.length = 3 := by unfold sealOK at h; unfold sealE; split; exact .inl rfl; rw [if_pos (by omega)]; exact .inr rfl
  refine (seal_any n p c xs w hr hb hc (by unfold maxLen at hm; omega)).mono ?_
  rintro e w' ⟨v, rfl, hf, hb⟩
  rw [show sealR n xs = [] by unfold sealR; rw [if_neg (by omega)]] at hf
  obtain ⟨q, d, rfl, _⟩ := hf.rd
  exact ⟨q, d, _, rfl, by omega, hb⟩
theorem open_sealed (n : Int) (p : Option Addr) (c : Nat) (xs : List Int) (w : World) (h : sealOK n xs.length) (hb : IsB xs) (hr : Rd .u8 w p (sealB n xs)) (hc : 32 ≤ c) (hm : c ≤ maxLen) : Calls Try.prog 23 #[.slice p 32 c] w fun e w' =>
    ∃ b o d, e = .returned (.tuple #[.int .i64 n, .slice (some ⟨b, o, none⟩) 16 d, .int .i64 0]) ∧ 16 ≤ d ∧ d ≤ maxLen ∧ (∀ i, i < 16 → w'.cell? ⟨b, o + i, none⟩ = some (.int .u8 ((pad16 xs).getD i 0))) ∧ Below w.heap.size w w' := by
  obtain ⟨h1, h2, h3⟩ := h
  have ho := open_any p c (sealB n xs) w hr (sealB_isB _ hb) (by rw [sealB_length n h3]; exact hc) hm
  rw [sealB_length n h3] at ho
  refine ho.mono ?_
  rintro e w' ⟨v, rfl, hf, hb⟩
  rw [openP_seal n xs h1 h2 h3] at hf
  obtain ⟨q, d, rfl, h4, h5, h6⟩ := hf.rd
  obtain ⟨b, o, rfl, hcell⟩ := h6 (by rw [pad16_length h3]; omega)
  rw [pad16_length h3] at h4 hcell ⊢
  exact ⟨b, o, d, by rw [openN, if_pos (openE_seal n xs h1 h2 h3), un8_seal n xs h1 h2, openE_seal n xs h1 h2 h3], h4, h5, hcell, hb⟩
end Go.Proofs.Ytnmgiiaejpaeeaa
