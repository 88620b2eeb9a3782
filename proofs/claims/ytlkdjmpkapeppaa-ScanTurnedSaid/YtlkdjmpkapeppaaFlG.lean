/- Floats that hold small whole numbers: sums, products, and back. -/
import Derived.Test.YtlkdjmpkapeppaaG1
namespace Go.Proofs.Ytlkdjmpkapeppaa
set_option linter.unusedVariables false
set_option linter.unusedSimpArgs false
open Ieee
/-- The word W, of double precision, stands for the whole number n. -/
def IsW (W : Nat) (n : Int) : Prop := ∃ (s : Bool) (k : Nat), double.read W = .number s (n.natAbs * 2 ^ k) (-(k : Int)) ∧ (n ≠ 0 → s = decide (n < 0))
theorem log2_mul (n k : Nat) (hn : n ≠ 0) : (n * 2 ^ k).log2 = n.log2 + k := by
  have hp : n * 2 ^ k ≠ 0 := Nat.mul_ne_zero hn (Nat.pos_iff_ne_zero.1 (Nat.two_pow_pos k))
  refine (Nat.log2_eq_iff hp).2 ⟨?_, ?_⟩
  · rw [Nat.pow_add]; exact Nat.mul_le_mul_right _ (Nat.log2_self_le hn)
  · rw [show n.log2 + k + 1 = (n.log2 + 1) + k by omega, Nat.pow_add]
    exact Nat.mul_lt_mul_of_pos_right Nat.lt_log2_self (Nat.two_pow_pos k)
/-- What is cut off is nothing. -/
theorem cut_exact (s : Bool) (q d : Nat) (hq : q ≠ 0) : Toward.even.cut s (q * 2 ^ d) d = q := by
  have hl := log2_mul q d hq
  have hm : min d ((q * 2 ^ d).log2 + 2) = d := by omega
  have hp := Nat.two_pow_pos d
  unfold Toward.cut
  simp only [hm, Nat.one_shiftLeft, Nat.mul_div_cancel _ hp, Nat.mul_mod_left]
  have h1 : decide (2 ^ d < 2 * 0) = false := by simp
  have h2 : (2 ^ d == 2 * 0) = false := by simp
  simp
theorem word_read (s : Bool) (L r : Nat) (hL : L ≤ 52) (hr : r < 4503599627370496) : double.read (double.word s ((L + 1022) * 4503599627370496 + (4503599627370496 + r))) = .number s (4503599627370496 + r) (-((52 - L : Nat) : Int)) := by
  have e1 : double.signWeight = 9223372036854775808 := by decide
  have e2 : double.binade = 4503599627370496 := by decide
  have e3 : double.infRung = 9218868437227405312 := by decide
  have e4 : double.leastPlace = -1074 := by decide
  unfold Format.read Format.word
  rw [e1, e2, e3, e4]
  have hs : ((if s = true then 9223372036854775808 + ((L + 1022) * 4503599627370496 + (4503599627370496 + r)) else (L + 1022) * 4503599627370496 + (4503599627370496 + r)) / 9223372036854775808 % 2 == 1) = s := by
    cases s
    · simp only [Bool.false_eq_true, if_false]
      have : ((L + 1022) * 4503599627370496 + (4503599627370496 + r)) / 9223372036854775808 = 0 := Nat.div_eq_of_lt (by omega)
      rw [this]; rfl
    · simp only [if_true]
      have : (9223372036854775808 + ((L + 1022) * 4503599627370496 + (4503599627370496 + r))) / 9223372036854775808 = 1 := by omega
      rw [this]; rfl
  have hm : (if s = true then 9223372036854775808 + ((L + 1022) * 4503599627370496 + (4503599627370496 + r)) else (L + 1022) * 4503599627370496 + (4503599627370496 + r)) % 9223372036854775808 = (L + 1022) * 4503599627370496 + (4503599627370496 + r) := by
    cases s <;> simp only [Bool.false_eq_true, if_false, if_true] <;> omega
  simp only [hs, hm]
  rw [if_neg (by omega), if_pos (by omega)]
  have d1 : ((L + 1022) * 4503599627370496 + (4503599627370496 + r)) % 4503599627370496 = r := by omega
  have d2 : ((L + 1022) * 4503599627370496 + (4503599627370496 + r)) / 4503599627370496 = L + 1023 := by omega
  have d3 : (-1074 : Int) + ((L + 1023 - 1 : Nat) : Int) = -((52 - L : Nat) : Int) := by omega
  rw [d1, d2, d3]
/-- A whole number below 2^53 is written as it is. -/
theorem nearest_exact (s : Bool) (n k : Nat) (hn : n < 9007199254740992) : ∃ k' : Nat, double.read (double.nearest s (n * 2 ^ k) (-(k : Int))) = .number s (n * 2 ^ k') (-(k' : Int)) := by
  by_cases h0 : n = 0
  · subst h0
    refine ⟨1074, ?_⟩
    unfold Format.nearest
    rw [if_pos (by simp)]
    cases s <;> decide +kernel
  · have hp : n * 2 ^ k ≠ 0 := Nat.mul_ne_zero h0 (Nat.pos_iff_ne_zero.1 (Nat.two_pow_pos k))
    have hL1 := Nat.log2_self_le h0
    have hL2 : n < 2 ^ (n.log2 + 1) := Nat.lt_log2_self
    have hL : n.log2 ≤ 52 := by
      rcases Nat.lt_or_ge 52 n.log2 with h | h
      · have : 2 ^ 53 ≤ 2 ^ n.log2 := Nat.pow_le_pow_right (by omega) (by omega)
        omega
      · exact h
    have hlog := log2_mul n k h0
    generalize n.log2 = L at *
    have e2 : double.binade = 4503599627370496 := by decide
    have e3 : double.infRung = 9218868437227405312 := by decide
    have e4 : double.leastPlace = -1074 := by decide
    have e5 : double.fractionBits = 52 := rfl
    have hkept : n * 2 ^ (52 - L) ≥ 4503599627370496 ∧ n * 2 ^ (52 - L) < 9007199254740992 := by
      constructor
      · have : 2 ^ L * 2 ^ (52 - L) ≤ n * 2 ^ (52 - L) := Nat.mul_le_mul_right _ hL1
        rw [← Nat.pow_add, show L + (52 - L) = 52 by omega] at this
        exact this
      · have : n * 2 ^ (52 - L) < 2 ^ (L + 1) * 2 ^ (52 - L) := Nat.mul_lt_mul_of_pos_right hL2 (Nat.two_pow_pos _)
        rw [← Nat.pow_add, show L + 1 + (52 - L) = 53 by omega] at this
        exact this
    have hlast : max (-(k : Int) + ((n * 2 ^ k).log2 : Int) - (52 : Nat)) (-1074) = (L : Int) - 52 := by rw [hlog]; omega
    have hcut : Toward.even.cut s ((n * 2 ^ k) <<< (-(k : Int) - ((L : Int) - 52)).toNat) (((L : Int) - 52) - (-(k : Int))).toNat = n * 2 ^ (52 - L) := by
      rcases Nat.le_total (52 - L) k with hk | hk
      · have a1 : (-(k : Int) - ((L : Int) - 52)).toNat = 0 := by omega
        have a2 : (((L : Int) - 52) - (-(k : Int))).toNat = k - (52 - L) := by omega
        rw [a1, a2, Nat.shiftLeft_zero]
        have : n * 2 ^ k = n * 2 ^ (52 - L) * 2 ^ (k - (52 - L)) := by rw [Nat.mul_assoc, ← Nat.pow_add]; congr 2; omega
        rw [this]
        exact cut_exact _ _ _ (by omega)
      · have a1 : (-(k : Int) - ((L : Int) - 52)).toNat = (52 - L) - k := by omega
        have a2 : (((L : Int) - 52) - (-(k : Int))).toNat = 0 := by omega
        rw [a1, a2, Nat.shiftLeft_eq, Nat.mul_assoc, ← Nat.pow_add, show k + (52 - L - k) = 52 - L by omega]
        have := cut_exact s (n * 2 ^ (52 - L)) 0 (by omega)
        simpa using this
    refine ⟨52 - L, ?_⟩
    unfold Format.nearest
    rw [if_neg hp]
    simp only [e2, e3, e4, e5]
    rw [hlast, hcut]
    have h1 : ((L : Int) - 52 - -1074).toNat = L + 1022 := by omega
    rw [h1]
    obtain ⟨r, hr⟩ : ∃ r, n * 2 ^ (52 - L) = 4503599627370496 + r := ⟨n * 2 ^ (52 - L) - 4503599627370496, by omega⟩
    rw [hr] at hkept ⊢
    rw [Nat.min_eq_left (by omega)]
    exact word_read s L r hL (by omega)
theorem isW_write {s : Bool} {n : Int} {k : Nat} (hn : n.natAbs < 9007199254740992) (hs : n ≠ 0 → s = decide (n < 0)) : IsW (double.write (.number s (n.natAbs * 2 ^ k) (-(k : Int)))) n := by
  obtain ⟨k', h⟩ := nearest_exact s n.natAbs k hn
  exact ⟨s, k', h, hs⟩
theorem isW_int {n : Int} (hn : n.natAbs < 9007199254740992) : IsW (double.nearest (decide (n < 0)) n.natAbs 0) n := by
  have := isW_write (s := decide (n < 0)) (k := 0) hn (fun _ => rfl)
  simpa [Format.write] using this
theorem isW_mul {x y : Nat} {a b : Int} (hx : IsW x a) (hy : IsW y b) (hn : (a * b).natAbs < 9007199254740992) : ∃ r, double.mul x y = some r ∧ IsW r (a * b) := by
  obtain ⟨s, k, h1, h2⟩ := hx
  obtain ⟨t, l, h3, h4⟩ := hy
  unfold Format.mul
  rw [h1, h3]
  refine ⟨_, rfl, ?_⟩
  show IsW (double.write (.number (s ^^ t) (a.natAbs * 2 ^ k * (b.natAbs * 2 ^ l)) (-(k : Int) + -(l : Int)))) _
  have e : a.natAbs * 2 ^ k * (b.natAbs * 2 ^ l) = (a * b).natAbs * 2 ^ (k + l) := by rw [Int.natAbs_mul, Nat.pow_add]; ac_rfl
  rw [e, show -(k : Int) + -(l : Int) = -((k + l : Nat) : Int) by omega]
  refine isW_write hn fun h0 => ?_
  have ha : a ≠ 0 := fun e => h0 (by rw [e, Int.zero_mul])
  have hb : b ≠ 0 := fun e => h0 (by rw [e, Int.mul_zero])
  rw [h2 ha, h4 hb]
  rcases Int.lt_or_gt_of_ne ha with h5 | h5 <;> rcases Int.lt_or_gt_of_ne hb with h6 | h6
  · have := Int.mul_pos_of_neg_of_neg h5 h6
    simp [h5, h6]; omega
  · have := Int.mul_neg_of_neg_of_pos h5 h6
    simp [h5, show ¬ b < 0 by omega, this]
  · have := Int.mul_neg_of_pos_of_neg h5 h6
    simp [h6, show ¬ a < 0 by omega, this]
  · have := Int.mul_pos h5 h6
    simp [show ¬ a < 0 by omega, show ¬ b < 0 by omega]; omega
theorem signed_val {s : Bool} {a : Int} {k up : Nat} (hs : a ≠ 0 → s = decide (a < 0)) : signed s (a.natAbs * 2 ^ k) up = a * 2 ^ (k + up) := by
  unfold signed
  have e : ((a.natAbs * 2 ^ k) <<< up : Nat) = a.natAbs * 2 ^ (k + up) := by rw [Nat.shiftLeft_eq, Nat.mul_assoc, ← Nat.pow_add]
  rw [e]
  by_cases h0 : a = 0
  · subst h0; cases s <;> simp
  · rw [hs h0]
    by_cases h : a < 0
    · simp only [h, decide_true, if_true]
      push_cast
      rw [show ((a.natAbs : Int)) = -a by omega, Int.neg_mul, Int.neg_neg]
    · simp only [h, decide_false, Bool.false_eq_true, if_false]
      push_cast
      rw [show ((a.natAbs : Int)) = a by omega]
theorem isW_sum {s t : Bool} {a b : Int} {k l : Nat} (h2 : a ≠ 0 → s = decide (a < 0)) (h4 : b ≠ 0 → t = decide (b < 0)) (hn : (a + b).natAbs < 9007199254740992) :
    ∃ d, (Datum.number s (a.natAbs * 2 ^ k) (-(k : Int))).sum (.number t (b.natAbs * 2 ^ l) (-(l : Int))) = some d ∧ IsW (double.write d) (a + b) := by
  refine ⟨_, rfl, ?_⟩
  obtain ⟨m, hm⟩ : ∃ m : Nat, m = max k l := ⟨_, rfl⟩
  have hb : min (-(k : Int)) (-(l : Int)) = -(m : Int) := by omega
  have a1 : (-(k : Int) - -(m : Int)).toNat = m - k := by omega
  have a2 : (-(l : Int) - -(m : Int)).toNat = m - l := by omega
  have ht : signed s (a.natAbs * 2 ^ k) (m - k) + signed t (b.natAbs * 2 ^ l) (m - l) = (a + b) * 2 ^ m := by
    rw [signed_val h2, signed_val h4, show k + (m - k) = m by omega, show l + (m - l) = m by omega, Int.add_mul]
  simp only [hb, a1, a2, ht]
  have hpos : (0 : Int) < 2 ^ m := by have := Nat.two_pow_pos m; exact_mod_cast this
  have habs : ((a + b) * 2 ^ m).natAbs = (a + b).natAbs * 2 ^ m := by rw [Int.natAbs_mul, Int.natAbs_pow]; rfl
  rw [habs]
  refine isW_write hn fun h0 => ?_
  have hne : ¬ ((a + b) * 2 ^ m = 0) := fun e => by
    rcases Int.mul_eq_zero.1 e with h | h
    · exact h0 h
    · omega
  rw [if_neg hne]
  by_cases h : a + b < 0
  · have := Int.mul_neg_of_neg_of_pos h hpos
    simp [h, this]
  · have : ¬ (a + b) * 2 ^ m < 0 := by have := Int.mul_nonneg (show 0 ≤ a + b by omega) (Int.le_of_lt hpos); omega
    simp [h, this]
theorem isW_add {x y : Nat} {a b : Int} (hx : IsW x a) (hy : IsW y b) (hn : (a + b).natAbs < 9007199254740992) : ∃ r, double.add x y = some r ∧ IsW r (a + b) := by
  obtain ⟨s, k, h1, h2⟩ := hx
  obtain ⟨t, l, h3, h4⟩ := hy
  obtain ⟨d, hd, hw⟩ := isW_sum (k := k) (l := l) h2 h4 hn
  unfold Format.add
  rw [h1, h3, hd]
  exact ⟨_, rfl, hw⟩
theorem isW_sub {x y : Nat} {a b : Int} (hx : IsW x a) (hy : IsW y b) (hn : (a - b).natAbs < 9007199254740992) : ∃ r, double.sub x y = some r ∧ IsW r (a - b) := by
  obtain ⟨s, k, h1, h2⟩ := hx
  obtain ⟨t, l, h3, h4⟩ := hy
  have h4' : -b ≠ 0 → (!t) = decide (-b < 0) := fun h => by
    rw [h4 (by omega)]
    by_cases h5 : b < 0
    · simp [h5]; omega
    · simp [h5]; omega
  obtain ⟨d, hd, hw⟩ := isW_sum (a := a) (b := -b) (k := k) (l := l) h2 h4' (by rw [← Int.sub_eq_add_neg]; exact hn)
  unfold Format.sub
  rw [h1, h3]
  show ∃ r, Option.map double.write ((Datum.number s _ _).sum (.number (!t) _ _)) = some r ∧ _
  rw [Int.natAbs_neg] at hd
  rw [hd]
  exact ⟨_, rfl, by rw [Int.sub_eq_add_neg]; exact hw⟩
theorem isW_back {x : Nat} {n : Int} (h : IsW x n) : (double.read x).toInt .zero = some n := by
  obtain ⟨s, k, h1, h2⟩ := h
  rw [h1]
  unfold Datum.toInt Datum.integral
  have a1 : (-(k : Int)).toNat = 0 := by omega
  have a2 : (-(-(k : Int))).toNat = k := by omega
  simp only [a1, a2, Nat.shiftLeft_zero]
  by_cases h0 : n = 0
  · subst h0
    have : Toward.zero.cut s (Int.natAbs 0 * 2 ^ k) k = 0 := by simp [Toward.cut]
    rw [this]
    cases s <;> rfl
  · have hq : n.natAbs ≠ 0 := by omega
    have hl := log2_mul n.natAbs k hq
    have hm : min k ((n.natAbs * 2 ^ k).log2 + 2) = k := by omega
    have : Toward.zero.cut s (n.natAbs * 2 ^ k) k = n.natAbs := by
      unfold Toward.cut
      simp only [hm, Nat.one_shiftLeft, Nat.mul_div_cancel _ (Nat.two_pow_pos k)]
      simp
    rw [this, h2 h0]
    unfold signed
    by_cases h : n < 0
    · simp [h]; omega
    · simp [h]; omega
end Go.Proofs.Ytlkdjmpkapeppaa
