/- Stamps: what the functions of package stamp compute, as plain functions on lists of numbers. -/
import Derived.Test.YtnmgiiaejpaeeaaB
namespace Go.Proofs.Ytnmgiiaejpaeeaa
set_option linter.unusedVariables false
set_option linter.unusedSimpArgs false
open Go.RowKit

def le8 (n : Int) : List Int := [n % 256, n / 256 % 256, n / 65536 % 256, n / 16777216 % 256, n / 4294967296 % 256, n / 1099511627776 % 256, n / 281474976710656 % 256, n / 72057594037927936 % 256]
def pad16 (xs : List Int) : List Int := xs ++ List.replicate (16 - xs.length) 0
def sealB (n : Int) (xs : List Int) : List Int := le8 n ++ (pad16 xs ++ le8 n)
theorem le8_length (n : Int) : (le8 n).length = 8 := rfl
theorem le8_isB (n : Int) : IsB (le8 n) := by
  intro x hx
  simp only [le8, List.mem_cons, List.not_mem_nil, or_false] at hx
  omega
theorem pad16_length {xs : List Int} (h : xs.length ≤ 16) : (pad16 xs).length = 16 := by simp [pad16]; omega
theorem IsB.append {xs ys : List Int} (hx : IsB xs) (hy : IsB ys) : IsB (xs ++ ys) := by
  intro x h
  rcases List.mem_append.1 h with h | h
  · exact hx x h
  · exact hy x h
theorem IsB.replicate (n : Nat) : IsB (List.replicate n 0) := by
  intro x h
  rw [(List.mem_replicate.1 h).2]
  omega
theorem pad16_isB {xs : List Int} (h : IsB xs) : IsB (pad16 xs) := h.append (IsB.replicate _)
theorem sealB_isB {xs : List Int} (n : Int) (h : IsB xs) : IsB (sealB n xs) := (le8_isB n).append ((pad16_isB h).append (le8_isB n))
theorem sealB_length {xs : List Int} (n : Int) (h : xs.length ≤ 16) : (sealB n xs).length = 32 := by simp [sealB, le8_length, pad16_length h]
theorem seal_splice (n : Int) (xs : List Int) (h1 : 1 ≤ n) (h2 : n ≤ 4611686018427387904) (h : xs.length ≤ 16) (L : List Value)
    (hL : L = ([n % 256, n / 256 % 256, n / 65536 % 256, n / 16777216 % 256, n / 4294967296 % 256, n / 1099511627776 % 256, n / 281474976710656 % 256, n / 72057594037927936, 0, 0, 0, 0, 0, 0, 0, 0, 0, 0, 0, 0, 0, 0, 0, 0,
      n % 256, n / 256 % 256, n / 65536 % 256, n / 16777216 % 256, n / 4294967296 % 256, n / 1099511627776 % 256, n / 281474976710656 % 256, n / 72057594037927936] : List Int).map (.int .u8)) :
    splice L 8 ((xs.map (.int .u8)).take 16) = (le8 n ++ (pad16 xs ++ le8 n)).map (.int .u8) := by
  have e : n / 72057594037927936 % 256 = n / 72057594037927936 := by omega
  have e2 : L = (le8 n ++ (List.replicate 16 0 ++ le8 n)).map (.int .u8) := by rw [hL]; simp [le8, e, List.replicate]
  subst e2
  clear hL
  rw [List.take_of_length_le (by simpa using h)]
  simp only [splice, List.map_append, List.length_map, pad16]
  rw [List.take_append_of_le_length (by simp [le8]), List.take_of_length_le (by simp [le8])]
  congr 1
  rw [List.drop_append, List.drop_eq_nil_of_le (by simp [le8]), List.nil_append, List.append_assoc]
  congr 1
  rw [show 8 + xs.length - (List.map (Value.int IntKind.u8) (le8 n)).length = xs.length by simp [le8]]
  rw [List.drop_append_of_le_length (by simpa using h), List.map_replicate, List.drop_replicate, List.map_replicate]
end Go.Proofs.Ytnmgiiaejpaeeaa
