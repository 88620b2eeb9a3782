/- slices.Backward over the writes of a disk: what the loop over it is handed. -/
import Derived.RangeFuncNested
import Derived.RangeFuncBound
import Derived.RangeFuncCalls
import Derived.RangeFuncLeaves
import Derived.Shelf.Abstract
import Derived.Shelf.RegionOpen
import Derived.WalkKit
import Derived.OwnWalkIn
import Derived.TacticsInMore
import Derived.LoopNIn
import Derived.LoopIn
import Derived.Test.YtnmgiiaejpaeeaaDk5
namespace Go.Proofs.Ytnmgiiaejpaeeaa
set_option linter.unusedVariables false
set_option linter.unusedSimpArgs false
open Go.RowKit Go.Shelf
attribute [local go_sem] Oper.semAt_some
/-- What has come when k rounds are over. -/
def upto {α : Type} (f : Nat → α) (k : Nat) : List α := (List.range k).map f
theorem upto_succ {α : Type} (f : Nat → α) (k : Nat) : upto f (k + 1) = upto f k ++ [f k] := by simp [upto, List.range_succ]
theorem upto_length {α : Type} (f : Nat → α) (k : Nat) : (upto f k).length = k := by simp [upto]
/-- A write of the row, as it is handed to the loop. -/
structure Elt (w0 : World) where
  (i : Nat) (x : Wr) (q : Option Addr) (c : Nat) (h1 : x.b.length ≤ c) (h2 : c ≤ maxLen) (rd : Rd .u8 w0 q x.b) (hb : x.b.length ≤ 140737488355328)
def Elt.v {w0 : World} (x : Elt w0) : Value := .agg #[.int .i64 x.x.pos, .slice x.q x.x.b.length x.c]
set_option maxRecDepth 100000 in
set_option maxHeartbeats 2000000 in
theorem back1_in (F : Fence) (n : Nat) (h7 : F.fn 95) (hro : F.round = none) (hn : 1 ≤ n) (l Bs n₀ b off cap len : Nat) (w0 : World) (hreach : len ≤ 8192) (hb : b < n₀)
    (g : Nat → Elt w0) (hg : ∀ m k, m + 1 + k = len → (g k).i = m) (J Jx : List (Elt w0) → World → Prop)
    (hY : ∀ pre x W, J pre W → pre.length < len → YieldAt F (n - 1) Try.prog l #[.int .i64 (x.i : Int), .agg #[.int .i64 x.x.pos, .slice x.q x.x.b.length x.c]] W fun e W' =>
      (e = .returned (.bool true) ∧ J (pre ++ [x]) W' ∧ Below n₀ W W') ∨ (e = .returned (.bool false) ∧ Jx (pre ++ [x]) W'))
    (W : World) (hBs : W.cell? ⟨Bs, 0, none⟩ = some (.slice (some ⟨b, off, none⟩) len cap)) (hBsn : Bs < n₀)
    (hc : ∀ m k, m + 1 + k = len → W.cell? ⟨b, off + m * 2, none⟩ = some (.int .i64 (g k).x.pos) ∧ W.cell? ⟨b, off + m * 2 + 1, none⟩ = some (.slice (g k).q (g k).x.b.length (g k).c)) (h0 : J [] W) :
    CallsIn F n Try.prog 95 #[.func (.yield l) #[] #[], .pointer (some ⟨Bs, 0, none⟩)] W fun e W' => (∃ v, e = .returned v) ∧
      ((∃ ys, ys = upto g len ∧ J ys W') ∨ (∃ pre, (∃ k, k ≤ len ∧ pre = upto g k) ∧ Jx pre W')) := by
  refine callsIn_of_wp Try.func95 rfl h7 ?_ hro
  simp only [Try.ntmps95, List.size_toArray, List.length_cons, List.length_nil, Nat.reduceAdd, Nat.reduceSub, Array.replicate_succ, Array.replicate_zero, List.push_toArray, List.append_toArray, List.nil_append, List.cons_append]
  gi_wp2
  gi_loopw [3] (fun i wr => ∃ m k : Nat, m + k = len ∧ i = .int .i64 ((m : Int) - 1) ∧ J (upto g k) wr ∧ Below n₀ W wr)
    (fun i _ => (intOf i + 1).toNat)
  case atStart => exact ⟨len, 0, by omega, rfl, h0, Below.refl _ _⟩
  case round =>
    obtain ⟨m, k, hk, rfl, hJs, hnx⟩ := hrel
    have hBx := (hnx.cell (p := ⟨Bs, 0, none⟩) hBsn).trans hBs
    rcases Nat.eq_zero_or_pos m with rfl | hpos
    · gi_wp2
      go_end0
      obtain rfl : k = len := by omega
      exact ⟨⟨_, rfl⟩, .inl ⟨_, rfl, hJs⟩⟩
    · obtain ⟨m, rfl⟩ : ∃ m', m = m' + 1 := ⟨m - 1, by omega⟩
      have hi : (g k).i = m := hg m k hk
      obtain ⟨c1, c2⟩ := hc m k hk
      have c1' := (hnx.cell (p := ⟨b, off + m * 2, none⟩) hb).trans c1
      have c2' := (hnx.cell (p := ⟨b, off + m * 2 + 1, none⟩) hb).trans c2
      obtain ⟨fn, tmps, assign, body, hy, hR⟩ := hY _ (g k) wr hJs (by rw [upto_length]; omega)
      rw [hi] at hy
      have e0 : (((m + 1 : Nat) : Int) - 1) = m := by omega
      rw [e0]
      clear c1 c2 hc hBs
      gi_wp2
      refine hR.mono ?_
      rintro e W3 (⟨rfl, hJ3, hk3⟩ | ⟨rfl, hJx3⟩)
      · gi_wp2
        go_roundw
        case rel => exact ⟨m, k + 1, by omega, rfl, by rw [upto_succ]; exact hJ3, hnx.trans hk3⟩
        case measure => simp [intOf]
      · gi_wp2
        refine bodyPost_ret (results_none rfl _ _ _) rfl ?_
        exact ⟨⟨_, rfl⟩, .inr ⟨_, ⟨k + 1, by omega, (upto_succ _ _).symm⟩, hJx3⟩⟩
end Go.Proofs.Ytnmgiiaejpaeeaa
