/- The chapter's example of the laws of package stamp; the laws' callees in the forms in which they are met. -/
import Derived.Test.YtnmgiiaejpaeeaaStamp1
import Derived.Test.YtnmgiiaejpaeeaaStamp2
import Derived.Test.YtnmgiiaejpaeeaaStamp4
import Derived.Test.YtnmgiiaejpaeeaaStamp5
import Derived.Shelf.Bytes.SlEqualAll
namespace Go.Proofs.Ytnmgiiaejpaeeaa
set_option linter.unusedVariables false
set_option linter.unusedSimpArgs false
open Go.RowKit

theorem pair_ok (g a : Int) (h : pairOK g a) (w : World) : Calls Try.prog 24 #[.int .i64 g, .int .i64 a] w fun e w' => e = .returned (.tuple #[.int .i64 (g * 1048576 + a), .int .i64 0]) ∧ w = w' := by
  have := pair_any g a w
  rwa [show pairV g a = g * 1048576 + a from if_pos h, show pairE g a = 0 from if_pos h] at this
theorem pair_bad (g a : Int) (h : ¬ pairOK g a) (w : World) : Calls Try.prog 24 #[.int .i64 g, .int .i64 a] w fun e w' => e = .returned (.tuple #[.int .i64 0, .int .i64 1]) ∧ w = w' := by
  have := pair_any g a w
  rwa [show pairV g a = 0 from if_neg h, show pairE g a = 1 from if_neg h] at this
def partOK (s : Int) : Prop := 1 ≤ s / 1048576 ∧ s / 1048576 ≤ 1099511627776
instance (s : Int) : Decidable (partOK s) := inferInstanceAs (Decidable (_ ∧ _))
theorem part_ok (s : Int) (h : partOK s) (w : World) : Calls Try.prog 25 #[.int .i64 s] w fun e w' => e = .returned (.tuple #[.int .i64 (s / 1048576), .int .i64 (s % 1048576), .int .i64 0]) ∧ w = w' := by
  have := part_any s w
  rwa [show partG s = s / 1048576 from if_pos h, show partA s = s % 1048576 from if_pos h, show partE s = 0 from if_pos h] at this
theorem part_bad (s : Int) (h : ¬ partOK s) (w : World) : Calls Try.prog 25 #[.int .i64 s] w fun e w' => e = .returned (.tuple #[.int .i64 0, .int .i64 0, .int .i64 1]) ∧ w = w' := by
  have := part_any s w
  rwa [show partG s = 0 from if_neg h, show partA s = 0 from if_neg h, show partE s = 1 from if_neg h] at this

theorem rd_lit (w : World) (x : Int) : Rd .u8 (w.alloc (.cells #[.int .u8 x] 5)) (some ⟨w.heap.size, 0, none⟩) [x] := fun _ => ⟨_, 0, rfl, fun i hi => by
  obtain rfl : i = 0 := by simpa using hi
  rw [Nat.add_zero, cell_of_row _ _ 0 _ _ _ (heap_alloc_new w _)]; rfl⟩
theorem live_seal (w : World) : Calls Try.prog 22 #[.int .i64 3145733, .slice (some ⟨w.heap.size, 0, none⟩) 1 1] (w.alloc (.cells #[.int .u8 7] 5)) fun e w' =>
    ∃ p c, e = .returned (.tuple #[.slice p 32 c, .int .i64 0]) ∧ Rd .u8 w' p (sealB 3145733 [7]) ∧ 32 ≤ c ∧ c ≤ maxLen ∧ Below w.heap.size w w' := by
  refine (seal_any 3145733 _ 1 [7] _ (rd_lit w 7) (by intro x hx; simp at hx; omega) (by simp) (by simp)).mono ?_
  rintro e w' ⟨v, rfl, hf, hb⟩
  rw [show sealR 3145733 [7] = sealB 3145733 [7] by decide] at hf
  obtain ⟨p, c, rfl, h1, h2, h3⟩ := hf.rd
  exact ⟨p, c, by rw [show sealE 3145733 [(7 : Int)].length = 0 by decide]; rfl, h3, h1, h2, (below_new _ _).trans (hb.mono (by simp))⟩
theorem live_open (p : Option Addr) (c : Nat) (w : World) (hr : Rd .u8 w p (sealB 3145733 [7])) (hc : 32 ≤ c) (hm : c ≤ maxLen) : Calls Try.prog 23 #[.slice p 32 c] w fun e w' =>
    ∃ b o c', e = .returned (.tuple #[.int .i64 3145733, .slice (some ⟨b, o, none⟩) 16 c', .int .i64 0]) ∧ 16 ≤ c' ∧ c' ≤ maxLen ∧ w'.cell? ⟨b, o, none⟩ = some (.int .u8 7) ∧ Below w.heap.size w w' := by
  refine (open_any p c (sealB 3145733 [7]) w hr (sealB_isB _ (by intro x hx; simp at hx; omega)) hc hm).mono ?_
  rintro e w' ⟨v, rfl, hf, hb⟩
  rw [show openP (sealB 3145733 [7]) = [7, 0, 0, 0, 0, 0, 0, 0, 0, 0, 0, 0, 0, 0, 0, 0] by decide] at hf
  obtain ⟨p', c', rfl, h1, h2, h3⟩ := hf.rd
  obtain ⟨b, o, rfl, hc⟩ := h3 (by simp)
  refine ⟨b, o, c', ?_, h1, h2, by simpa using hc 0 (by simp), hb⟩
  rw [show openN (sealB 3145733 [7]) = 3145733 by decide, show openE (sealB 3145733 [7]) = 0 by decide]; rfl
set_option maxRecDepth 100000 in
theorem live_any (w : World) : Calls Try.prog 21 #[] w fun e w' => e = .returned (.bool true) ∧ Below w.heap.size w w' := by
  go_enter Try.func21, Try.ntmps21
  go_wp2_with fail
  refine (pair_ok 3 5 (by decide) _).mono ?_
  rintro e w1 ⟨rfl, rfl⟩
  go_wp2_with fail
  refine (live_seal _).mono ?_
  rintro e w1 ⟨p, c, rfl, hr, hc, hm, hb⟩
  unfold maxLen at hm
  go_wp2_with fail
  refine (live_open p c w1 hr hc hm).mono ?_
  rintro e w2 ⟨b, o, c', rfl, hc', hm', hcell, hb2⟩
  unfold maxLen at hm'
  go_wp2
  go_ret
  exact ⟨rfl, hb.trans (hb2.mono hb.size)⟩
/-! ### What is sealed opens -/
theorem un8_seal (n : Int) (xs : List Int) (h1 : 1 ≤ n) (h2 : n ≤ 4611686018427387904) : un8 (sealB n xs) = n := by
  show n % 256 + n / 256 % 256 * 256 + n / 65536 % 256 * 65536 + n / 16777216 % 256 * 16777216 + n / 4294967296 % 256 * 4294967296 + n / 1099511627776 % 256 * 1099511627776 + n / 281474976710656 % 256 * 281474976710656 + n / 72057594037927936 % 256 * 72057594037927936 = n
  omega
theorem take8_seal (n : Int) (xs : List Int) : (sealB n xs).take 8 = le8 n := rfl
theorem drop8_seal (n : Int) (xs : List Int) : (sealB n xs).drop 8 = pad16 xs ++ le8 n := rfl
theorem drop24_seal (n : Int) (xs : List Int) (hx : xs.length ≤ 16) : (sealB n xs).drop 24 = le8 n := by
  rw [show (24 : Nat) = 8 + 16 from rfl, ← List.drop_drop, drop8_seal, List.drop_append_of_le_length (by rw [pad16_length hx]; exact Nat.le_refl _), List.drop_eq_nil_of_le (by rw [pad16_length hx]; exact Nat.le_refl _), List.nil_append]
theorem openE_seal (n : Int) (xs : List Int) (h1 : 1 ≤ n) (h2 : n ≤ 4611686018427387904) (hx : xs.length ≤ 16) : openE (sealB n xs) = 0 := by
  unfold openE
  rw [if_neg (by rw [sealB_length n hx]; simp), take8_seal, drop24_seal n xs hx, un8_seal n xs h1 h2, if_neg (by rintro (h | h); exact h rfl; omega), if_neg (by omega)]
theorem openP_seal (n : Int) (xs : List Int) (h1 : 1 ≤ n) (h2 : n ≤ 4611686018427387904) (hx : xs.length ≤ 16) : openP (sealB n xs) = pad16 xs := by
  unfold openP
  rw [if_pos (openE_seal n xs h1 h2 hx), drop8_seal, List.take_append_of_le_length (by rw [pad16_length hx]; exact Nat.le_refl _), List.take_of_length_le (by rw [pad16_length hx]; exact Nat.le_refl _)]
def sealOK (n : Int) (m : Nat) : Prop := 1 ≤ n ∧ n ≤ 4611686018427387904 ∧ m ≤ 16
theorem seal_ok (n : Int) (p : Option Addr) (c : Nat) (xs : List Int) (w : World) (h : sealOK n xs.length) (hr : Rd .u8 w p xs) (hb : IsB xs) (hc : xs.length ≤ c) : Calls Try.prog 22 #[.int .i64 n, .slice p xs.length c] w fun e w' =>
    ∃ q d, e = .returned (.tuple #[.slice q 32 d, .int .i64 0]) ∧ Rd .u8 w' q (sealB n xs) ∧ 32 ≤ d ∧ d ≤ maxLen ∧ Below w.heap.size w w' := by
  obtain ⟨h1, h2, h3⟩ := h
  have hE : sealE n xs.length = 0 := by unfold sealE; rw [if_neg (by omega), if_neg (by omega)]
  refine (seal_any n p c xs w hr hb hc (by omega)).mono ?_
  rintro e w' ⟨v, rfl, hf, hb⟩
  rw [show sealR n xs = sealB n xs by unfold sealR; rw [if_pos hE]] at hf
  obtain ⟨q, d, rfl, h4, h5, h6⟩ := hf.rd
  rw [sealB_length n h3] at h4 ⊢
  exact ⟨q, d, by rw [hE], h6, h4, h5, hb⟩
theorem seal_bad (n : Int) (p : Option Addr) (c : Nat) (xs : List Int) (w : World) (h : ¬ sealOK n xs.length) (hr : Rd .u8 w p xs) (hb : IsB xs) (hc : xs.length ≤ c) (hm : c ≤ maxLen) : Calls Try.prog 22 #[.int .i64 n, .slice p xs.length c] w fun e w' =>
    ∃ (q : Option Addr) (d : Nat) (k : Int), e = .returned (.tuple #[.slice q 0 d, .int .i64 k]) ∧ 1 ≤ k ∧ Below w.heap.size w w' := by
  have hE : sealE n xs.length = 1 ∨ sealE n xs.length = 3 := by unfold sealOK at h; unfold sealE; split; exact .inl rfl; rw [if_pos (by omega)]; exact .inr rfl
  refine (seal_any n p c xs w hr hb hc (by unfold maxLen at hm; omega)).mono ?_
  rintro e w' ⟨v, rfl, hf, hb⟩
  rw [show sealR n xs = [] by unfold sealR; rw [if_neg (by omega)]] at hf
  obtain ⟨q, d, rfl, _⟩ := hf.rd
  exact ⟨q, d, _, rfl, by omega, hb⟩
theorem open_sealed (n : Int) (p : Option Addr) (c : Nat) (xs : List Int) (w : World) (h : sealOK n xs.length) (hb : IsB xs) (hr : Rd .u8 w p (sealB n xs)) (hc : 32 ≤ c) (hm : c ≤ maxLen) : Calls Try.prog 23 #[.slice p 32 c] w fun e w' =>
    ∃ b o d, e = .returned (.tuple #[.int .i64 n, .slice (some ⟨b, o, none⟩) 16 d, .int .i64 0]) ∧ 16 ≤ d ∧ d ≤ maxLen ∧ (∀ i, i < 16 → w'.cell? ⟨b, o + i, none⟩ = some (.int .u8 ((pad16 xs).getD i 0))) ∧ Below w.heap.size w w' := by
  obtain ⟨h1, h2, h3⟩ := h
  have ho := open_any p c (sealB n xs) w hr (sealB_isB _ hb) (by rw [sealB_length n h3]; exact hc) hm
  rw [sealB_length n h3] at ho
  refine ho.mono ?_
  rintro e w' ⟨v, rfl, hf, hb⟩
  rw [openP_seal n xs h1 h2 h3] at hf
  obtain ⟨q, d, rfl, h4, h5, h6⟩ := hf.rd
  obtain ⟨b, o, rfl, hcell⟩ := h6 (by rw [pad16_length h3]; omega)
  rw [pad16_length h3] at h4 hcell ⊢
  exact ⟨b, o, d, by rw [openN, if_pos (openE_seal n xs h1 h2 h3), un8_seal n xs h1 h2, openE_seal n xs h1 h2 h3], h4, h5, hcell, hb⟩
theorem seal_bad' (n : Int) (p : Option Addr) (c : Nat) (xs : List Int) (w : World) (h : ¬ sealOK n xs.length) (hr : Rd .u8 w p xs) (hb : IsB xs) (hc : xs.length ≤ c) (hm : c ≤ maxLen) : Calls Try.prog 22 #[.int .i64 n, .slice p xs.length c] w fun e w' =>
    ∃ (q : Option Addr) (d : Nat) (k : Int), e = .returned (.tuple #[.slice q 0 d, .int .i64 k]) ∧ 1 ≤ k ∧ d ≤ maxLen ∧ Below w.heap.size w w' := by
  have hE : sealE n xs.length = 1 ∨ sealE n xs.length = 3 := by unfold sealOK at h; unfold sealE; split; exact .inl rfl; rw [if_pos (by omega)]; exact .inr rfl
  refine (seal_any n p c xs w hr hb hc (by unfold maxLen at hm; omega)).mono ?_
  rintro e w' ⟨v, rfl, hf, hb⟩
  rw [show sealR n xs = [] by unfold sealR; rw [if_neg (by omega)]] at hf
  obtain ⟨q, d, rfl, _, hd, _⟩ := hf.rd
  exact ⟨q, d, _, rfl, by omega, hd, hb⟩
/-! ### Whatever it is; octets as strings; torn sectors -/
theorem seal_gen (n : Int) (p : Option Addr) (c : Nat) (xs : List Int) (w : World) (hr : Rd .u8 w p xs) (hb : IsB xs) (hc : xs.length ≤ c) (hm : c ≤ maxLen) : Calls Try.prog 22 #[.int .i64 n, .slice p xs.length c] w fun e w' =>
    ∃ (ys : List Int) (q : Option Addr) (d : Nat) (k : Int), e = .returned (.tuple #[.slice q ys.length d, .int .i64 k]) ∧ Rd .u8 w' q ys ∧ ys.length ≤ d ∧ d ≤ maxLen ∧ Below w.heap.size w w' := by
  refine (seal_any n p c xs w hr hb hc (by unfold maxLen at hm; omega)).mono ?_
  rintro e w' ⟨v, rfl, hf, hb⟩
  obtain ⟨q, d, rfl, h1, h2, h3⟩ := hf.rd
  exact ⟨_, q, d, _, rfl, h3, h1, h2, hb⟩
theorem mix_gen (p q : Option Addr) (c d : Nat) (old next : List Int) (many : Int) (w : World) (hr : Rd .u8 w p old) (hq : Rd .u8 w q next) (hc : old.length ≤ c) (hd : next.length ≤ d) (hcm : c ≤ maxLen) (hdm : d ≤ maxLen) :
    Calls Try.prog 26 #[.slice p old.length c, .slice q next.length d, .int .i64 many] w fun e w' => ∃ v k, e = .returned (.tuple #[v, .int .i64 k]) ∧ Below w.heap.size w w' := by
  refine (mix_any p q c d old next many w hr hq hc hd hcm hdm).mono ?_
  rintro e w' ⟨v, rfl, hf, hb⟩
  exact ⟨v, _, rfl, hb⟩
theorem mix_no (p q : Option Addr) (c d : Nat) (old next : List Int) (many : Int) (w : World) (h : ¬ mixOK old.length next.length many) (hr : Rd .u8 w p old) (hq : Rd .u8 w q next) (hc : old.length ≤ c) (hd : next.length ≤ d) (hcm : c ≤ maxLen) (hdm : d ≤ maxLen) :
    Calls Try.prog 26 #[.slice p old.length c, .slice q next.length d, .int .i64 many] w fun e w' => ∃ x y, e = .returned (.tuple #[.slice x 0 y, .int .i64 1]) ∧ Below w.heap.size w w' := by
  refine (mix_any p q c d old next many w hr hq hc hd hcm hdm).mono ?_
  rintro e w' ⟨v, rfl, hf, hb⟩
  rw [show mixB old next many = [] from if_neg h] at hf
  obtain ⟨x, y, rfl, _⟩ := hf.rd
  exact ⟨x, y, by rw [show mixE old next many = 1 from if_neg h]; rfl, hb⟩
theorem mix_yes (p q : Option Addr) (c d : Nat) (old next : List Int) (many : Int) (w : World) (h : mixOK old.length next.length many) (hr : Rd .u8 w p old) (hq : Rd .u8 w q next) (hc : old.length ≤ c) (hd : next.length ≤ d) (hcm : c ≤ maxLen) (hdm : d ≤ maxLen) :
    Calls Try.prog 26 #[.slice p old.length c, .slice q next.length d, .int .i64 many] w fun e w' => ∃ x y, e = .returned (.tuple #[.slice x 32 y, .int .i64 0]) ∧ Rd .u8 w' x (next.take many.toNat ++ old.drop many.toNat) ∧ 32 ≤ y ∧ y ≤ maxLen ∧ Below w.heap.size w w' := by
  have hm := h
  obtain ⟨h1, h2, h3, h4⟩ := h
  have hl : (next.take many.toNat ++ old.drop many.toNat).length = 32 := by simp; omega
  refine (mix_any p q c d old next many w hr hq hc hd hcm hdm).mono ?_
  rintro e w' ⟨v, rfl, hf, hb⟩
  rw [show mixB old next many = next.take many.toNat ++ old.drop many.toNat from if_pos hm] at hf
  obtain ⟨x, y, rfl, h5, h6, h7⟩ := hf.rd
  rw [hl] at h5 ⊢
  exact ⟨x, y, by rw [show mixE old next many = 0 from if_pos hm], h7, h5, h6, hb⟩
theorem open_torn (p : Option Addr) (c : Nat) (zs : List Int) (w : World) (h : zs.length = 32) (ht : zs.take 8 ≠ zs.drop 24) (hr : Rd .u8 w p zs) (hb : IsB zs) (hc : 32 ≤ c) (hm : c ≤ maxLen) : Calls Try.prog 23 #[.slice p 32 c] w fun e w' =>
    ∃ q d, e = .returned (.tuple #[.int .i64 0, .slice q 0 d, .int .i64 8]) ∧ Below w.heap.size w w' := by
  have hE : openE zs = 8 := by unfold openE; rw [if_neg (by omega), if_pos (.inl ht)]
  have ho := open_any p c zs w hr hb (by omega) hm
  rw [h] at ho
  refine ho.mono ?_
  rintro e w' ⟨v, rfl, hf, hb⟩
  rw [show openP zs = [] by unfold openP; rw [if_neg (by omega)]] at hf
  obtain ⟨q, d, rfl, _⟩ := hf.rd
  exact ⟨q, d, by rw [hE, show openN zs = 0 by unfold openN; rw [if_neg (by omega)]]; rfl, hb⟩
theorem conv_rd {w : World} {p : Option Addr} {c : Nat} {xs : List Int} (h : Rd .u8 w p xs) : ∀ nq, (convert 22 9 (.slice p xs.length c)).run Try.prog (w.drewN nq) = .ok (.string (strOfNums xs)) (w.drewN nq) := fun nq =>
  Lib.BytesIn.convert (h.drew nq).bytesIn rfl c 22 5 9 Try.underlying22 Try.underlying5 Try.underlying9
theorem strs_beq {xs ys : List Int} (hx : IsB xs) (hy : IsB ys) : ((strOfNums xs).toList == (strOfNums ys).toList) = decide (xs = ys) := by
  rw [Lib.strOfNums_toList, Lib.strOfNums_toList, bytesOf_beq hx hy]
theorem strs_eq (xs : List Int) : ((strOfNums xs).toList == (strOfNums xs).toList) = true := by simp
theorem le8_inj {a b : Int} (ha : 1 ≤ a) (ha2 : a ≤ 4611686018427387904) (hb : 1 ≤ b) (hb2 : b ≤ 4611686018427387904) (h : le8 a = le8 b) : a = b := by
  have h1 := un8_seal a [] ha ha2
  have h2 := un8_seal b [] hb hb2
  have e : ∀ n : Int, un8 (sealB n []) = un8 (le8 n) := fun n => rfl
  rw [e] at h1 h2
  rw [← h1, ← h2, h]
theorem torn_ways (a b : Int) (old next : List Int) (m : Nat) (hm : m ≤ 32) (hab : a ≠ b) (h1 : sealOK a old.length) (h2 : sealOK b next.length) :
    (sealB b next).take m ++ (sealB a old).drop m = sealB a old ∨ (sealB b next).take m ++ (sealB a old).drop m = sealB b next ∨
      ((sealB b next).take m ++ (sealB a old).drop m ≠ sealB a old ∧ (sealB b next).take m ++ (sealB a old).drop m ≠ sealB b next ∧ ((sealB b next).take m ++ (sealB a old).drop m).take 8 ≠ ((sealB b next).take m ++ (sealB a old).drop m).drop 24) := by
  obtain ⟨a1, a2, a3⟩ := h1
  obtain ⟨b1, b2, b3⟩ := h2
  have lx := sealB_length a a3
  have ly := sealB_length b b3
  have dx := drop24_seal a old a3
  have dy := drop24_seal b next b3
  have tx := take8_seal a old
  have ty := take8_seal b next
  have hne : le8 a ≠ le8 b := fun e => hab (le8_inj a1 a2 b1 b2 e)
  generalize sealB a old = X at *
  generalize sealB b next = Y at *
  by_cases hx : Y.take m ++ X.drop m = X
  · exact .inl hx
  by_cases hy : Y.take m ++ X.drop m = Y
  · exact .inr (.inl hy)
  refine .inr (.inr ⟨hx, hy, fun e => ?_⟩)
  have lt : (Y.take m).length = m := by simp; omega
  rcases Nat.lt_or_ge 24 m with h24 | h24
  · -- more than 24 octets are new ones
    rw [List.take_append_of_le_length (by omega), List.take_take, show min 8 m = 8 by omega, ty, List.drop_append_of_le_length (by omega)] at e
    apply hy
    have e2 : X.drop m = Y.drop m := by
      have h3 : (le8 b).drop (m - 24) = X.drop m := by
        rw [e, List.drop_append, List.drop_eq_nil_of_le (by simp; omega), List.nil_append]
        rw [show m - 24 - ((Y.take m).drop 24).length = 0 by simp; omega, List.drop_zero]
      rw [← h3, ← dy, List.drop_drop, show 24 + (m - 24) = m by omega]
    rw [e2, List.take_append_drop]
  · have e24 : (Y.take m ++ X.drop m).drop 24 = X.drop 24 := by
      rw [List.drop_append, List.drop_eq_nil_of_le (by omega), List.nil_append, lt, List.drop_drop, show m + (24 - m) = 24 by omega]
    rw [e24, dx] at e
    rcases Nat.lt_or_ge m 8 with h8 | h8
    · -- fewer than 8
      apply hx
      have e3 : Y.take m = X.take m := by
        have h3 : ((Y.take m ++ X.drop m).take 8).take m = (le8 a).take m := by rw [e]
        rw [List.take_take, show min m 8 = m by omega, List.take_append_of_le_length (by omega), List.take_take, Nat.min_self] at h3
        rw [h3, ← tx, List.take_take, show min m 8 = m by omega]
      rw [e3, List.take_append_drop]
    · rw [List.take_append_of_le_length (by omega), List.take_take, show min 8 m = 8 by omega, ty] at e
      exact hne e.symm
/-! ### Whatever opens with a new sector's stamp -/
theorem le8_un8 {l : List Int} (hb : IsB l) (h : 8 ≤ l.length) : le8 (un8 l) = l.take 8 := by
  match l, h with
  | a0 :: a1 :: a2 :: a3 :: a4 :: a5 :: a6 :: a7 :: r, _ =>
    have r0 := hb a0 (by simp); have r1 := hb a1 (by simp); have r2 := hb a2 (by simp); have r3 := hb a3 (by simp)
    have r4 := hb a4 (by simp); have r5 := hb a5 (by simp); have r6 := hb a6 (by simp); have r7 := hb a7 (by simp)
    have e : un8 (a0 :: a1 :: a2 :: a3 :: a4 :: a5 :: a6 :: a7 :: r) = a0 + a1 * 256 + a2 * 65536 + a3 * 16777216 + a4 * 4294967296 + a5 * 1099511627776 + a6 * 281474976710656 + a7 * 72057594037927936 := rfl
    rw [e]
    simp only [le8, List.take_succ_cons, List.take_zero, List.cons.injEq, and_true]
    omega
theorem openE_ok {zs : List Int} (h : openE zs = 0) : zs.length = 32 ∧ zs.take 8 = zs.drop 24 ∧ un8 zs ≤ 4611686018427387904 ∧ un8 zs ≠ 0 := by
  unfold openE at h
  split at h
  · omega
  split at h
  · omega
  rename_i h1 h2
  split at h
  · omega
  rename_i h3
  refine ⟨by omega, ?_, by omega, h3⟩
  by_cases h4 : zs.take 8 = zs.drop 24
  · exact h4
  · exact absurd (.inl h4) h2
theorem new_ways {n : Int} {old pay : List Int} {m : Nat} (hm : m ≤ 32) (h : sealOK n pay.length) (ho : old.length = 32) (bo : IsB old) (bp : IsB pay)
    (hE : openE ((sealB n pay).take m ++ old.drop m) = 0) (hN : un8 ((sealB n pay).take m ++ old.drop m) = n) (hd : old.drop 24 ≠ le8 n) : (sealB n pay).take m ++ old.drop m = sealB n pay := by
  obtain ⟨a1, a2, a3⟩ := h
  have ly := sealB_length n a3
  have dy := drop24_seal n pay a3
  have bZ : IsB ((sealB n pay).take m ++ old.drop m) := IsB.append (fun x hx => sealB_isB n bp x (List.mem_of_mem_take hx)) (fun x hx => bo x (List.mem_of_mem_drop hx))
  obtain ⟨e1, e2, e3, e4⟩ := openE_ok hE
  have e5 := le8_un8 bZ (by omega)
  rw [hN, e2] at e5
  clear hE hN e2 e3 e4 bZ
  generalize sealB n pay = Y at *
  have lt : (Y.take m).length = m := by simp; omega
  rcases Nat.lt_or_ge 24 m with h24 | h24
  · rw [List.drop_append_of_le_length (by omega)] at e5
    have e6 : old.drop m = Y.drop m := by
      have h3 : (le8 n).drop (m - 24) = old.drop m := by
        rw [e5, List.drop_append, List.drop_eq_nil_of_le (by simp; omega), List.nil_append]
        rw [show m - 24 - ((Y.take m).drop 24).length = 0 by simp; omega, List.drop_zero]
      rw [← h3, ← dy, List.drop_drop, show 24 + (m - 24) = m by omega]
    rw [e6, List.take_append_drop]
  · exfalso
    apply hd
    have e7 : (Y.take m ++ old.drop m).drop 24 = old.drop 24 := by
      rw [List.drop_append, List.drop_eq_nil_of_le (by omega), List.nil_append, lt, List.drop_drop, show m + (24 - m) = 24 by omega]
    rw [e5, e7]
theorem open_gen (p : Option Addr) (c : Nat) (zs : List Int) (w : World) (h : zs.length = 32) (hr : Rd .u8 w p zs) (hb : IsB zs) (hc : 32 ≤ c) (hm : c ≤ maxLen) : Calls Try.prog 23 #[.slice p 32 c] w fun e w' =>
    ∃ q d, e = .returned (.tuple #[.int .i64 (openN zs), .slice q (if openE zs = 0 then 16 else 0) d, .int .i64 (openE zs)]) ∧ Below w.heap.size w w' := by
  have ho := open_any p c zs w hr hb (by omega) hm
  rw [h] at ho
  refine ho.mono ?_
  rintro e w' ⟨v, rfl, hf, hb⟩
  have hl : (openP zs).length = if openE zs = 0 then 16 else 0 := by unfold openP; split <;> simp [h]
  obtain ⟨q, d, rfl, _⟩ := hf.rd
  exact ⟨q, d, by rw [hl], hb⟩
end Go.Proofs.Ytnmgiiaejpaeeaa
