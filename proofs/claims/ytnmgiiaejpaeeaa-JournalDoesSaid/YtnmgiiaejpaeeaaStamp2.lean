/- Contracts of package stamp: Pair, Part. -/
import Derived.Test.YtnmgiiaejpaeeaaProg
import Derived.Test.YtnmgiiaejpaeeaaStampP
namespace Go.Proofs.Ytnmgiiaejpaeeaa
set_option linter.unusedVariables false
set_option linter.unusedSimpArgs false
open Go.RowKit

def pairOK (g a : Int) : Prop := 1 ≤ g ∧ g ≤ 1099511627776 ∧ 0 ≤ a ∧ a < 1048576
instance (g a : Int) : Decidable (pairOK g a) := inferInstanceAs (Decidable (_ ∧ _))
def pairE (g a : Int) : Int := if pairOK g a then 0 else 1
def pairV (g a : Int) : Int := if pairOK g a then g * 1048576 + a else 0
theorem i64_or_pair (g a : Int) (h : pairOK g a) : bits .or .i64 (g * 1048576) a = g * 1048576 + a := by
  obtain ⟨h1, h2, h3, h4⟩ := h
  exact bits_join .i64 63 (by decide) (fun n h0 h1 => by rw [IntKind.wrap_i64]; omega) 20 _ a (by omega) (by omega) (by omega) h3 (by omega) (by omega)
theorem pair_any (g a : Int) (w : World) :
    Calls Try.prog 24 #[.int .i64 g, .int .i64 a] w fun e w' => e = .returned (.tuple #[.int .i64 (pairV g a), .int .i64 (pairE g a)]) ∧ w = w' := by
  by_cases h : pairOK g a
  · have e1 : pairE g a = 0 := if_pos h
    have e2 : pairV g a = bits .or .i64 (g * 1048576) a := by rw [i64_or_pair g a h]; exact if_pos h
    rw [e1, e2]; clear e1 e2
    obtain ⟨h1, h2, h3, h4⟩ := h
    have h5 : a / 1048576 ≤ 0 := by omega
    go_enter Try.func24, Try.ntmps24
    go_wp2
    go_ret2
    exact ⟨rfl, rfl⟩
  · have e1 : pairE g a = 1 := if_neg h
    have e2 : pairV g a = 0 := if_neg h
    rw [e1, e2]; clear e1 e2
    have h5 : g < 1 ∨ 1099511627776 < g ∨ a < 0 ∨ 0 < a / 1048576 := by unfold pairOK at h; omega
    clear h
    rcases h5 with h | h | h | h
    all_goals
      go_enter Try.func24, Try.ntmps24
      go_wp2
      all_goals
        go_ret2
        exact ⟨rfl, rfl⟩

def partE (s : Int) : Int := if 1 ≤ s / 1048576 ∧ s / 1048576 ≤ 1099511627776 then 0 else 1
def partG (s : Int) : Int := if 1 ≤ s / 1048576 ∧ s / 1048576 ≤ 1099511627776 then s / 1048576 else 0
def partA (s : Int) : Int := if 1 ≤ s / 1048576 ∧ s / 1048576 ≤ 1099511627776 then s % 1048576 else 0
theorem i64_and_place (n : Int) : bits .and .i64 n 1048575 = n % 1048576 := by
  have h127 : (BitVec.ofInt 64 1048575).toNat = 2 ^ 20 - 1 := by decide
  have key : (BitVec.ofInt 64 n &&& BitVec.ofInt 64 1048575).toNat = (n % ((2 ^ 64 : Nat) : Int)).toNat % 2 ^ 20 := by
    rw [BitVec.toNat_and, BitVec.toNat_ofInt, h127, Nat.and_two_pow_sub_one_eq_mod]
  show IntKind.i64.wrap ((BitVec.ofInt 64 n &&& BitVec.ofInt 64 1048575).toNat : Nat) = n % 1048576
  rw [key, IntKind.wrap_i64]
  omega
theorem part_any (s : Int) (w : World) :
    Calls Try.prog 25 #[.int .i64 s] w fun e w' => e = .returned (.tuple #[.int .i64 (partG s), .int .i64 (partA s), .int .i64 (partE s)]) ∧ w = w' := by
  by_cases h : 1 ≤ s / 1048576 ∧ s / 1048576 ≤ 1099511627776
  · have e1 : partE s = 0 := if_pos h
    have e2 : partG s = s / 1048576 := if_pos h
    have e3 : partA s = bits .and .i64 s 1048575 := by rw [i64_and_place]; exact if_pos h
    rw [e1, e2, e3]; clear e1 e2 e3
    obtain ⟨h1, h2⟩ := h
    go_enter Try.func25, Try.ntmps25
    go_wp2
    go_ret3
    exact ⟨rfl, rfl⟩
  · have e1 : partE s = 1 := if_neg h
    have e2 : partG s = 0 := if_neg h
    have e3 : partA s = 0 := if_neg h
    rw [e1, e2, e3]; clear e1 e2 e3
    have h5 : s / 1048576 < 1 ∨ 1099511627776 < s / 1048576 := by omega
    clear h
    rcases h5 with h | h
    all_goals
      go_enter Try.func25, Try.ntmps25
      go_wp2
      all_goals
        go_ret3
        exact ⟨rfl, rfl⟩
end Go.Proofs.Ytnmgiiaejpaeeaa
